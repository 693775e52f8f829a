/-
Plain: the graph of the reference's Schedule (one edge for each job and slot); its greatest amount is all energy if and only if the jobs can be met.
-/
import Derived.Test.YtmmmgafnmpaohaaGMath
namespace Go.Proofs.Ytmmmgafnmpaohaa
set_option linter.unusedVariables false
set_option linter.unusedSimpArgs false
theorem S_blocks (n m : Nat) (g : Nat → Int) : S (n * m) g = S n (fun i => S m (fun k => g (i * m + k))) := by
  induction n with
  | zero => rw [Nat.zero_mul]; rfl
  | succ n ih => rw [Nat.succ_mul, S_append, ih, S_succ]
/-- The rate in a slot. -/
def rateAt (j : GJob) (t : Nat) : Int := pick (inJ j t) j.rate
def edA (js : List GJob) (T i : Nat) : GEdge := ⟨0, 1 + T + i, (jAt js i).energy⟩
def edB (js : List GJob) (T i t : Nat) : GEdge := ⟨1 + T + i, 1 + t, rateAt (jAt js i) t⟩
def edC (J T : Nat) (sup : List Int) (t : Nat) : GEdge := ⟨1 + t, T + J + 1, fAt sup t⟩
/-- The edges of a job: the first one, then those to n slots. -/
def rowB (js : List GJob) (T i n : Nat) : List GEdge := edA js T i :: mk n (edB js T i)
def rowsB (js : List GJob) (T n : Nat) : List GEdge := (List.range n).flatMap (fun i => rowB js T i T)
def graphQ (js : List GJob) (sup : List Int) : List GEdge := rowsB js sup.length js.length ++ mk sup.length (edC js.length sup.length sup)
theorem rowB_len (js : List GJob) (T i n : Nat) : (rowB js T i n).length = n + 1 := by unfold rowB; rw [List.length_cons, mk_len]
theorem rowB_succ (js : List GJob) (T i n : Nat) : rowB js T i (n + 1) = rowB js T i n ++ [edB js T i n] := by unfold rowB; rw [mk_succ]; rfl
theorem rowsB_succ (js : List GJob) (T n : Nat) : rowsB js T (n + 1) = rowsB js T n ++ rowB js T n T := by
  unfold rowsB
  rw [List.range_succ, List.flatMap_append]
  simp
theorem rowsB_len (js : List GJob) (T n : Nat) : (rowsB js T n).length = n * (T + 1) := by
  induction n with
  | zero => rw [Nat.zero_mul]; rfl
  | succ n ih => rw [rowsB_succ, List.length_append, ih, rowB_len, Nat.succ_mul]
theorem rowB_0 (js : List GJob) (T i n : Nat) : eAt (rowB js T i n) 0 = edA js T i := rfl
theorem rowB_1 (js : List GJob) (T i : Nat) {n k : Nat} (hk : k < n) : eAt (rowB js T i n) (1 + k) = edB js T i k := by
  unfold rowB eAt
  rw [Nat.add_comm, List.getElem?_cons_succ, mk_at _ hk]
  rfl
theorem rowsB_at (js : List GJob) (T : Nat) {n i k : Nat} (hi : i < n) (hk : k < T + 1) : eAt (rowsB js T n) (i * (T + 1) + k) = eAt (rowB js T i T) k := by
  induction n with
  | zero => omega
  | succ n ih =>
    rw [rowsB_succ]
    by_cases e : i = n
    · subst e
      rw [← rowsB_len js T i, app_e2]
    · rw [app_e1 (by
        rw [rowsB_len]
        have : i * (T + 1) + (T + 1) ≤ n * (T + 1) := by rw [← Nat.succ_mul]; exact Nat.mul_le_mul_right _ (by omega)
        omega)]
      exact ih (by omega)
theorem graphQ_len (js : List GJob) (sup : List Int) : (graphQ js sup).length = js.length * (sup.length + 1) + sup.length := by
  unfold graphQ
  rw [List.length_append, rowsB_len, mk_len]
theorem S_one (n : Nat) (g : Nat → Int) : S (n + 1) g = g 0 + S n (fun k => g (1 + k)) := by
  rw [Nat.add_comm, S_append]
  simp [S]
theorem S_graphQ (js : List GJob) (sup : List Int) (g : GEdge → Nat → Int) :
    S (graphQ js sup).length (fun i => g (eAt (graphQ js sup) i) i) = S js.length (fun i => g (edA js sup.length i) (i * (sup.length + 1)) + S sup.length (fun t => g (edB js sup.length i t) (i * (sup.length + 1) + (1 + t)))) + S sup.length (fun t => g (edC js.length sup.length sup t) (js.length * (sup.length + 1) + t)) := by
  rw [graphQ_len, S_append, S_blocks]
  congr 1
  · refine S_congr fun i hi => ?_
    rw [S_one]
    have hlt : ∀ k, k < sup.length + 1 → i * (sup.length + 1) + k < (rowsB js sup.length js.length).length := fun k hk => by
      rw [rowsB_len]
      have : i * (sup.length + 1) + (sup.length + 1) ≤ js.length * (sup.length + 1) := by rw [← Nat.succ_mul]; exact Nat.mul_le_mul_right _ (by omega)
      omega
    unfold graphQ
    rw [app_e1 (hlt 0 (by omega)), rowsB_at js sup.length hi (by omega), rowB_0, Nat.add_zero]
    congr 1
    refine S_congr fun t ht => ?_
    rw [app_e1 (hlt (1 + t) (by omega)), rowsB_at js sup.length hi (by omega), rowB_1 _ _ _ ht]
  · refine S_congr fun t ht => ?_
    unfold graphQ
    rw [← rowsB_len js sup.length js.length, app_e2, mk_e _ ht]
theorem rate_bd {js : List GJob} {sup : List Int} (h : okP js sup = true) {i : Nat} (hi : i < js.length) (t : Nat) : 0 ≤ rateAt (jAt js i) t ∧ rateAt (jAt js i) t ≤ 1000 := by
  obtain ⟨_, _, _, _, _, a, b, _⟩ := okP_job h hi
  unfold rateAt pick
  split <;> omega
theorem graphQ_ok {js : List GJob} {sup : List Int} (h : okP js sup = true) : okEnds (sup.length + js.length + 2) (graphQ js sup) 0 (sup.length + js.length + 1) = true := by
  obtain ⟨⟨a1, a2⟩, _, _⟩ := okP_iff.1 h
  have hm : js.length * (sup.length + 1) ≤ 12 * 25 := Nat.mul_le_mul a1 (by omega)
  refine okEnds_iff.2 ⟨okG_iff.2 ⟨⟨by omega, by omega, by rw [graphQ_len]; omega⟩, fun e he => ?_⟩, by omega, by omega, by omega, by omega, by omega⟩
  unfold graphQ at he
  rcases List.mem_append.1 he with he | he
  · unfold rowsB at he
    obtain ⟨i, hi, he⟩ := List.mem_flatMap.1 he
    have hi := List.mem_range.1 hi
    unfold rowB at he
    rcases List.mem_cons.1 he with rfl | he
    · obtain ⟨_, _, _, q1, q2, _⟩ := okP_job h hi
      refine okE_iff.2 ?_
      unfold edA
      dsimp only
      omega
    · obtain ⟨t, ht, rfl⟩ := List.mem_map.1 he
      have ht := List.mem_range.1 ht
      have := rate_bd h hi t
      refine okE_iff.2 ?_
      unfold edB
      dsimp only
      omega
  · obtain ⟨t, ht, rfl⟩ := List.mem_map.1 he
    have ht := List.mem_range.1 ht
    have := okP_sup h ht
    refine okE_iff.2 ?_
    unfold edC
    dsimp only
    omega
section
variable {js : List GJob} {sup : List Int}
theorem netQ (fl : List Int) (u : Int) : net (graphQ js sup) fl u = S js.length (fun i => pick ((0 : Int) = u) (fAt fl (i * (sup.length + 1))) - pick ((1 + sup.length + i : Int) = u) (fAt fl (i * (sup.length + 1))) + S sup.length (fun t => pick ((1 + sup.length + i : Int) = u) (fAt fl (i * (sup.length + 1) + (1 + t))) - pick ((1 + t : Int) = u) (fAt fl (i * (sup.length + 1) + (1 + t))))) + S sup.length (fun t => pick ((1 + t : Int) = u) (fAt fl (js.length * (sup.length + 1) + t)) - pick ((sup.length + js.length + 1 : Int) = u) (fAt fl (js.length * (sup.length + 1) + t))) := by
  have h := S_graphQ js sup (fun e i => pick (e.frm = u) (fAt fl i) - pick (e.to = u) (fAt fl i))
  exact h
theorem netQ_src (fl : List Int) : net (graphQ js sup) fl 0 = S js.length (fun i => fAt fl (i * (sup.length + 1))) := by
  rw [netQ, S_congr (h := fun i => fAt fl (i * (sup.length + 1))) (fun i _ => by
    rw [pick_pos rfl, pick_neg (by omega), S_none (fun t _ => by rw [pick_neg (by omega), pick_neg (by omega)]; rfl)]; omega), S_none (n := sup.length) (fun t _ => by rw [pick_neg (by omega), pick_neg (by omega)]; rfl)]
  omega
theorem netQ_job (fl : List Int) {i : Nat} (hi : i < js.length) : net (graphQ js sup) fl (1 + sup.length + i : Int) = - fAt fl (i * (sup.length + 1)) + S sup.length (fun t => fAt fl (i * (sup.length + 1) + (1 + t))) := by
  have e1 : S sup.length (fun t => pick ((1 + t : Int) = (1 + sup.length + i : Int)) (fAt fl (js.length * (sup.length + 1) + t)) - pick ((sup.length + js.length + 1 : Int) = (1 + sup.length + i : Int)) (fAt fl (js.length * (sup.length + 1) + t))) = 0 := S_none (fun t ht => by rw [pick_neg (by omega), pick_neg (by omega)]; rfl)
  have e2 : S sup.length (fun t => pick ((1 + sup.length + i : Int) = (1 + sup.length + i : Int)) (fAt fl (i * (sup.length + 1) + (1 + t))) - pick ((1 + t : Int) = (1 + sup.length + i : Int)) (fAt fl (i * (sup.length + 1) + (1 + t)))) = S sup.length (fun t => fAt fl (i * (sup.length + 1) + (1 + t))) := S_congr (fun t ht => by rw [pick_pos rfl, pick_neg (by omega)]; omega)
  rw [netQ, e1, S_single (k := i) hi (fun k _ hk => by
    rw [pick_neg (by omega), pick_neg (by omega), S_none (fun t ht => by rw [pick_neg (by omega), pick_neg (by omega)]; rfl)]; rfl), e2, pick_neg (by omega), pick_pos rfl]
  omega
theorem netQ_slot (fl : List Int) {t : Nat} (ht : t < sup.length) : net (graphQ js sup) fl (1 + t : Int) = fAt fl (js.length * (sup.length + 1) + t) - S js.length (fun i => fAt fl (i * (sup.length + 1) + (1 + t))) := by
  rw [netQ, S_congr (h := fun i => (-1) * fAt fl (i * (sup.length + 1) + (1 + t))) (fun i _ => by
    rw [pick_neg (by omega), pick_neg (by omega), S_single (k := t) ht (fun k _ hk => by rw [pick_neg (by omega), pick_neg (by omega)]; rfl), pick_neg (by omega), pick_pos rfl]; omega), S_mul, S_single (k := t) ht (fun k _ hk => by rw [pick_neg (by omega), pick_neg (by omega)]; rfl), pick_pos rfl, pick_neg (by omega)]
  omega
theorem fitQ {fl : List Int} (hf : IsFlow (sup.length + js.length + 2) (graphQ js sup) 0 (sup.length + js.length + 1) fl) {i k : Nat} (hi : i < js.length) (hk : k < sup.length + 1) : 0 ≤ fAt fl (i * (sup.length + 1) + k) ∧ fAt fl (i * (sup.length + 1) + k) ≤ (eAt (rowB js sup.length i sup.length) k).cap := by
  have hm : i * (sup.length + 1) + (sup.length + 1) ≤ js.length * (sup.length + 1) := by rw [← Nat.succ_mul]; exact Nat.mul_le_mul_right _ (by omega)
  have := hf.fits (i * (sup.length + 1) + k) (by rw [graphQ_len]; omega)
  unfold graphQ at this
  rw [app_e1 (by rw [rowsB_len]; omega), rowsB_at js sup.length hi hk] at this
  exact this
theorem fitC {fl : List Int} (hf : IsFlow (sup.length + js.length + 2) (graphQ js sup) 0 (sup.length + js.length + 1) fl) {t : Nat} (ht : t < sup.length) : fAt fl (js.length * (sup.length + 1) + t) ≤ fAt sup t := by
  have := (hf.fits (js.length * (sup.length + 1) + t) (by rw [graphQ_len]; omega)).2
  unfold graphQ at this
  rw [← rowsB_len js sup.length js.length, app_e2, mk_e _ ht] at this
  rw [← rowsB_len js sup.length js.length]
  exact this
theorem netQ_all {fl : List Int} (hf : IsFlow (sup.length + js.length + 2) (graphQ js sup) 0 (sup.length + js.length + 1) fl) : net (graphQ js sup) fl 0 ≤ allE js := by
  rw [netQ_src]
  exact S_le (fun i hi => (fitQ hf hi (k := 0) (by omega)).2)
theorem flowQ_plan (hok : okP js sup = true) {fl : List Int} (hf : IsFlow (sup.length + js.length + 2) (graphQ js sup) 0 (sup.length + js.length + 1) fl) (hfull : allE js ≤ net (graphQ js sup) fl 0) : Met js sup := by
  rw [netQ_src] at hfull
  have hall := S_tight (fun i hi => (fitQ hf hi (k := 0) (by omega)).2) hfull
  have hr : ∀ i t, i < js.length → t < sup.length → 0 ≤ fAt fl (i * (sup.length + 1) + (1 + t)) ∧ fAt fl (i * (sup.length + 1) + (1 + t)) ≤ rateAt (jAt js i) t := fun i t hi ht => by
    have := fitQ hf hi (k := 1 + t) (by omega)
    rwa [rowB_1 _ _ _ ht] at this
  refine ⟨fun i t => fAt fl (i * (sup.length + 1) + (1 + t)), fun i t hi ht => (hr i t hi ht).1, fun i t hi ht => ?_, fun i t hi ht hn => ?_, fun i hi => ?_, fun t ht => ?_⟩
  · have h1 := hr i t hi ht
    by_cases x : inJ (jAt js i) t
    · unfold rateAt at h1; rw [pick_pos x] at h1; exact h1.2
    · unfold rateAt at h1; rw [pick_neg x] at h1
      have h2 : fAt fl (i * (sup.length + 1) + (1 + t)) = 0 := by omega
      show fAt fl (i * (sup.length + 1) + (1 + t)) ≤ _
      rw [h2]
      exact (okP_job hok hi).2.2.2.2.2.1
  · have h1 := hr i t hi ht
    unfold rateAt at h1; rw [pick_neg hn] at h1
    show fAt fl (i * (sup.length + 1) + (1 + t)) = 0
    omega
  · have h := hf.kept (1 + sup.length + i : Int) (by omega) (by omega) (by omega) (by omega)
    rw [netQ_job fl hi] at h
    have h2 : fAt fl (i * (sup.length + 1)) = (jAt js i).energy := hall i hi
    show S sup.length (fun t => fAt fl (i * (sup.length + 1) + (1 + t))) = _
    omega
  · have h := hf.kept (1 + t : Int) (by omega) (by omega) (by omega) (by omega)
    rw [netQ_slot fl ht] at h
    have := fitC hf ht
    show S js.length (fun i => fAt fl (i * (sup.length + 1) + (1 + t))) ≤ _
    omega
theorem capQ (side : List Bool) : capac (graphQ js sup) side = S js.length (fun i => pick (crossing side (edA js sup.length i) = true) (jAt js i).energy + S sup.length (fun t => pick (crossing side (edB js sup.length i t) = true) (rateAt (jAt js i) t))) + S sup.length (fun t => pick (crossing side (edC js.length sup.length sup t) = true) (fAt sup t)) := by
  have h := S_graphQ js sup (fun e i => pick (crossing side e = true) e.cap)
  exact h
theorem cutQ_plan {side : List Bool} (hc : IsCut (sup.length + js.length + 2) 0 (sup.length + js.length + 1) side) (hless : capac (graphQ js sup) side < allE js) : roomC js sup (fun i => sAt side (1 + sup.length + i : Int)) (fun t => sAt side (1 + t : Int)) < needC js (fun i => sAt side (1 + sup.length + i : Int)) := by
  rw [capQ, S_add] at hless
  have e1 : S js.length (fun i => pick (crossing side (edA js sup.length i) = true) (jAt js i).energy) = allE js - needC js (fun i => sAt side (1 + sup.length + i : Int)) := by
    unfold allE needC
    rw [← S_sub]
    refine S_congr fun i _ => ?_
    have : crossing side (edA js sup.length i) = !sAt side (1 + sup.length + i : Int) := by
      unfold crossing edA
      dsimp only
      rw [hc.src]
      rfl
    rw [this]
    dsimp only
    by_cases hs : sAt side (1 + sup.length + i : Int) = true
    · rw [pick_neg (by simp [hs]), pick_pos hs]; omega
    · rw [pick_pos (by simp [hs]), pick_neg hs]; omega
  have e2 : S sup.length (fun t => pick (crossing side (edC js.length sup.length sup t) = true) (fAt sup t)) = S sup.length (fun t => pick (sAt side (1 + t : Int) = true) (fAt sup t)) := by
    refine S_congr fun t _ => ?_
    have : crossing side (edC js.length sup.length sup t) = sAt side (1 + t : Int) := by
      unfold crossing edC
      dsimp only
      rw [hc.snk]
      simp
    rw [this]
  have e3 : S js.length (fun i => S sup.length (fun t => pick (crossing side (edB js sup.length i t) = true) (rateAt (jAt js i) t))) = S js.length (fun i => pick (sAt side (1 + sup.length + i : Int) = true) (S sup.length (fun t => pick (inJ (jAt js i) t ∧ sAt side (1 + t : Int) = false) (jAt js i).rate))) := by
    refine S_congr fun i hi => ?_
    rw [S_pick]
    refine S_congr fun t _ => ?_
    unfold crossing edB rateAt pick
    dsimp only
    cases sAt side (1 + sup.length + i : Int) <;> cases sAt side (1 + t : Int) <;> by_cases x : inJ (jAt js i) t <;> simp [x]
  rw [e1, e2, e3] at hless
  unfold roomC
  dsimp only
  omega
/-- What the reference's Most says of the jobs. -/
theorem mostQ_plan (hok : okP js sup = true) {n : Int} (h : IsMost (sup.length + js.length + 2) (graphQ js sup) 0 (sup.length + js.length + 1) n) : n = allE js ↔ Met js sup := by
  obtain ⟨fl, side, hf, hc, e1, e2⟩ := h
  have hle := netQ_all hf
  refine ⟨fun h => flowQ_plan hok hf (by omega), fun ⟨P, hP⟩ => ?_⟩
  rcases Int.lt_or_le n (allE js) with hlt | hge
  · have h1 := cutQ_plan hc (by omega)
    have h2 := not_both hok hP (fun i => sAt side (1 + sup.length + i : Int)) (fun t => sAt side (1 + t : Int))
    omega
  · omega
end
end Go.Proofs.Ytmmmgafnmpaohaa
