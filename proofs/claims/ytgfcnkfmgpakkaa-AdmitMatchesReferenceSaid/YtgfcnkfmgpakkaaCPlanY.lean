/-
What the end of plan.Schedule needs: the cut of a side, the plan of a flow, as they are read.
-/
import Derived.Test.YtgfcnkfmgpakkaaCPlanU2
import Derived.Test.YtgfcnkfmgpakkaaGPlanC
namespace Go.Proofs.Ytgfcnkfmgpakkaa
open Go.RowKit Go.Shelf
set_option linter.unusedVariables false
theorem fAt_app1 {xs ys : List Int} {i : Nat} (h : i < xs.length) : fAt (xs ++ ys) i = fAt xs i := by unfold fAt; rw [List.getElem?_append_left h]
theorem fAt_last (xs : List Int) (x : Int) : fAt (xs ++ [x]) xs.length = x := by unfold fAt; rw [List.getElem?_append_right (Nat.le_refl _)]; simp
theorem good_snoc {xs : List Int} {n : Nat} (h : goodTo xs n xs.length) : goodTo (xs ++ [(n : Int)]) ((n + 1 : Nat) : Int) (xs ++ [(n : Int)]).length := by
  intro i hi
  rw [List.length_append, List.length_singleton] at hi
  have hb : befP (xs ++ [(n : Int)]) i = befP xs i := by
    cases i with
    | zero => rfl
    | succ i => exact fAt_app1 (by omega)
  rw [hb]
  by_cases e : i = xs.length
  · subst e
    rw [fAt_last]
    refine ⟨?_, by omega⟩
    cases hx : xs.length with
    | zero => simp [befP]; omega
    | succ m =>
      show fAt xs m < n
      exact (h m (by omega)).2
  · rw [fAt_app1 (by omega)]
    have := h i (by omega)
    exact ⟨this.1, by omega⟩
theorem good_more {xs : List Int} {n : Nat} (h : goodTo xs n xs.length) : goodTo xs ((n + 1 : Nat) : Int) xs.length := fun i hi => ⟨(h i hi).1, by have := (h i hi).2; omega⟩
theorem chosen_good (sd : List Bool) (off n : Nat) : goodTo (chosenTo sd off n) n (chosenTo sd off n).length := by
  induction n with
  | zero => intro i hi; simp [chosenTo] at hi
  | succ n ih =>
    cases h : bAt sd (off + n)
    · rw [chosen_no h]; exact good_more ih
    · rw [chosen_yes h]; exact good_snoc ih
theorem chosen_in (sd : List Bool) (off n i : Nat) (hi : i < n) : inL (chosenTo sd off n) i = bAt sd (off + i) := by
  unfold inL chosenTo
  cases h : bAt sd (off + i)
  · simp only [decide_eq_false_iff_not, List.mem_map, List.mem_filter, List.mem_range]
    rintro ⟨k, ⟨_, hk⟩, e⟩
    have : k = i := by omega
    subst this
    rw [h] at hk
    cases hk
  · simp only [decide_eq_true_eq, List.mem_map, List.mem_filter, List.mem_range]
    exact ⟨i, ⟨hi, h⟩, rfl⟩
theorem needC_congr {js : List GJob} {cj cj' : Nat → Bool} (h : ∀ i, i < js.length → cj i = cj' i) : needC js cj = needC js cj' := by
  unfold needC
  exact S_congr (fun i hi => by rw [h i hi])
theorem roomC_congr {js : List GJob} {sup : List Int} {cj cj' cs cs' : Nat → Bool} (h : ∀ i, i < js.length → cj i = cj' i) (h2 : ∀ t, t < sup.length → cs t = cs' t) : roomC js sup cj cs = roomC js sup cj' cs' := by
  unfold roomC
  congr 1
  · exact S_congr (fun t ht => by rw [h2 t ht])
  · refine S_congr (fun i hi => ?_)
    rw [h i hi]
    congr 1
    exact S_congr (fun t ht => by rw [h2 t ht])
theorem cut_of_side {js : List GJob} {sup : List Int} {side : List Bool} {N T : Nat} (hN : js.length = N) (hT : sup.length = T) (hok : okP js sup = true) (hc : IsCut ((2 + N + T : Nat) : Int) 0 1 side) (hless : capac (graphP js sup) side < allE js) :
    cutPB js sup (chosenTo side 2 N) (chosenTo side (2 + N) T) = true := by
  subst hN hT
  have h := cut_plan hok (side := side) (by have := hc; rwa [show ((2 + js.length + sup.length : Nat) : Int) = 2 + js.length + sup.length by omega] at this) hless
  unfold cutPB
  rw [hok, marksB_iff.2 (chosen_good side 2 js.length), marksB_iff.2 (chosen_good side (2 + js.length) sup.length)]
  simp only [Bool.true_and, decide_eq_true_eq]
  have e1 : ∀ i, i < js.length → inL (chosenTo side 2 js.length) i = sAt side (2 + i : Int) := fun i hi => by
    rw [chosen_in _ _ _ _ hi]
    unfold bAt sAt
    congr 2
  have e2 : ∀ t, t < sup.length → inL (chosenTo side (2 + js.length) sup.length) t = sAt side (2 + js.length + t : Int) := fun t ht => by
    rw [chosen_in _ _ _ _ ht]
    unfold bAt sAt
    congr 2
  rw [needC_congr e1, roomC_congr e1 e2]
  exact h
theorem rd_ne {W : World} {b n : Nat} {t : TypeId} {f : Nat → Value} {A : Option Addr} {xs : List Int} (ho : Own W b t n f) (hf : ∀ i x, f i ≠ .int .i64 x) (hr : Rd 1 encI W A xs) : ∀ a, A = some a → 0 < xs.length → a.block ≠ b := by
  intro a ha h0 e
  obtain ⟨b', off, hA, hlt, hc⟩ := hr.int h0
  rw [ha] at hA
  injection hA with hA
  subst hA
  dsimp only at e
  subst e
  rw [Nat.add_zero] at hc
  obtain ⟨cs, hb, hs, hcs⟩ := ho
  unfold World.cell? at hc
  rw [hb] at hc
  dsimp only at hc
  by_cases h : off < n
  · simp [hcs off h] at hc
    exact hf off _ hc
  · rw [Array.getElem?_eq_none (by omega)] at hc
    simp at hc
/-- Rows of one list, as a plan. -/
theorem rdP_own {W : World} {gt ga N T : Nat} {h : Nat → Nat → Int} (ot : Own W gt 23 N (fun i => .slice (some ⟨ga, i * T, none⟩) T T)) (oa : Own W ga 3 (N * T) (matC T h)) (hT : T ≤ 24) :
    RdP W (some ⟨gt, 0, none⟩) (mk N (fun i => ⟨some ⟨ga, i * T, none⟩, T, T⟩)) (mk N (fun i => mk T (fun t => h i t))) := by
  refine ⟨ot.rd (by rw [mk_len]; omega) (fun _ => rfl) (fun k x hx j v hv => ?_), by rw [mk_len, mk_len], fun k r p hr hp => ?_⟩
  · have hk : k < N := by have := (List.getElem?_eq_some_iff.1 hx).1; rw [mk_len] at this; exact this
    rw [mk_at _ hk] at hx
    injection hx with hx
    subst hx
    have hj : j = 0 := by have := (List.getElem?_eq_some_iff.1 hv).1; simp [encRow] at this; exact this
    subst hj
    simp only [encRow, List.getElem?_cons_zero, Option.some.injEq] at hv
    rw [← hv, Nat.mul_one, Nat.add_zero]
  · have hk : k < N := by have := (List.getElem?_eq_some_iff.1 hr).1; rw [mk_len] at this; exact this
    rw [mk_at _ hk] at hr hp
    injection hr with hr
    injection hp with hp
    subst hr hp
    refine ⟨mk_len _ _, by dsimp only; omega, fun h0 => ⟨ga, k * T, rfl, oa.lt, fun t x hx j v hv => ?_⟩⟩
    have ht : t < T := by have := (List.getElem?_eq_some_iff.1 hx).1; rw [mk_len] at this; exact this
    rw [mk_at _ ht] at hx
    injection hx with hx
    subst hx
    have hj : j = 0 := by have := (List.getElem?_eq_some_iff.1 hv).1; simp [encI] at this; exact this
    subst hj
    simp only [encI, List.getElem?_cons_zero, Option.some.injEq] at hv
    have hidx : k * T + t < N * T := by
      have : k * T + T ≤ N * T := by rw [← Nat.succ_mul]; exact Nat.mul_le_mul_right _ hk
      omega
    have hT0 : 0 < T := by omega
    rw [Nat.mul_one, Nat.add_zero, oa.cell hidx, ← hv]
    unfold matC
    have e1 : (k * T + t) / T = k := by rw [Nat.mul_comm, Nat.mul_add_div hT0, Nat.div_eq_of_lt ht, Nat.add_zero]
    have e2 : (k * T + t) % T = t := by rw [Nat.mul_comm, Nat.mul_add_mod, Nat.mod_eq_of_lt ht]
    rw [e1, e2]
theorem IsPlan.congr {js : List GJob} {sup : List Int} {P P' : Nat → Nat → Int} (h : IsPlan js sup P) (e : ∀ i t, i < js.length → t < sup.length → P i t = P' i t) : IsPlan js sup P' :=
  ⟨fun i t hi ht => by rw [← e i t hi ht]; exact h.lo i t hi ht, fun i t hi ht => by rw [← e i t hi ht]; exact h.hi i t hi ht, fun i t hi ht hn => by rw [← e i t hi ht]; exact h.out i t hi ht hn,
   fun i hi => by rw [← h.got i hi]; exact S_congr (fun t ht => (e i t hi ht).symm), fun t ht => by rw [S_congr (h := fun i => P i t) (fun i hi => (e i t hi ht).symm)]; exact h.fits t ht⟩
theorem planB_flow {js : List GJob} {sup : List Int} {P h : Nat → Nat → Int} {N T : Nat} (hN : js.length = N) (hT : sup.length = T) (hok : okP js sup = true) (hp : IsPlan js sup P) (e : ∀ i t, i < N → t < T → P i t = h i t) :
    planB js sup (mk N (fun i => mk T (fun t => h i t))) = true := by
  subst hN hT
  have row : ∀ i, i < js.length → rowAt (mk js.length (fun i => mk sup.length (fun t => h i t))) i = mk sup.length (fun t => h i t) := fun i hi => by unfold rowAt; rw [mk_at _ hi]; rfl
  refine planB_iff.2 ⟨hok, mk_len _ _, fun i hi => by rw [row i hi, mk_len], hp.congr (fun i t hi ht => ?_)⟩
  rw [e i t hi ht]
  unfold pAt
  rw [row i hi, mk_f _ ht]
theorem cell_taken {B : Nat} {W W' : World} {p : Addr} {v : Value} (h : W.cell? p = some v) (hT : Taken B W W') : W'.cell? p = some v := by
  cases ho : W.heap[p.block]? with
  | none => unfold World.cell? at h; rw [ho] at h; cases h
  | some o =>
    have hc : o.isCells = true := by
      unfold World.cell? at h
      rw [ho] at h
      cases o <;> first | rfl | (simp at h; done)
    rw [← h]
    exact World.cell?_of_block ((hT.2.2.2.2.2 p.block o ho hc).trans ho.symm)
theorem Rd.taken {α : Type} {sz : Nat} {enc : α → List Value} {A : Option Addr} {xs : List α} {B : Nat} {W W' : World} (hr : Rd sz enc W A xs) (hT : Taken B W W') : Rd sz enc W' A xs := by
  intro h0
  obtain ⟨b, off, hA, hlt, hc⟩ := hr h0
  exact ⟨b, off, hA, by rw [hT.2.2.2.1]; exact hlt, fun k x hx j v hv => cell_taken (hc k x hx j v hv) hT⟩
/-- The world in which the cut is returned. -/
theorem cut_end {w W2 : World} {B n3 n4 c3 c4 : Nat} {ds : List Deferred} {a3 a4 : Option Addr} {cj cs : List Int} (o5 : Own W2 (w.heap.size + 1) 30 2 (fun _ => .slice none 0 0)) (r3 : Rd 1 encI W2 a3 cj) (r4 : Rd 1 encI W2 a4 cs) (hmk : Marks B W2 ds) (bel : Below w.heap.size w W2) :
    Own ((W2.setCell ⟨w.heap.size + 1, 0, none⟩ (.slice a3 n3 c3)).setCell ⟨w.heap.size + 1, 1, none⟩ (.slice a4 n4 c4)).drew (w.heap.size + 1) 30 2 (fun i => if i = 0 then .slice a3 n3 c3 else .slice a4 n4 c4) ∧
    Rd 1 encI ((W2.setCell ⟨w.heap.size + 1, 0, none⟩ (.slice a3 n3 c3)).setCell ⟨w.heap.size + 1, 1, none⟩ (.slice a4 n4 c4)).drew a3 cj ∧
    Rd 1 encI ((W2.setCell ⟨w.heap.size + 1, 0, none⟩ (.slice a3 n3 c3)).setCell ⟨w.heap.size + 1, 1, none⟩ (.slice a4 n4 c4)).drew a4 cs ∧
    Marks B ((W2.setCell ⟨w.heap.size + 1, 0, none⟩ (.slice a3 n3 c3)).setCell ⟨w.heap.size + 1, 1, none⟩ (.slice a4 n4 c4)).drew ds ∧
    Below w.heap.size w ((W2.setCell ⟨w.heap.size + 1, 0, none⟩ (.slice a3 n3 c3)).setCell ⟨w.heap.size + 1, 1, none⟩ (.slice a4 n4 c4)).drew := by
  have hM : Mod (fun q => q = w.heap.size + 1) W2 ((W2.setCell ⟨w.heap.size + 1, 0, none⟩ (.slice a3 n3 c3)).setCell ⟨w.heap.size + 1, 1, none⟩ (.slice a4 n4 c4)).drew :=
    (((Mod.refl (fun q => q = w.heap.size + 1) W2).setCell (p := ⟨w.heap.size + 1, 0, none⟩) (.inl rfl) _).setCell (p := ⟨w.heap.size + 1, 1, none⟩) (.inl rfl) _).drew
  refine ⟨((o5.set 0 _).set 1 _).drew.congr (fun i hi => ?_), r3.mod hM (rd_ne o5 (fun i x h => by cases h) r3), r4.mod hM (rd_ne o5 (fun i x h => by cases h) r4), hmk.keeps (keepsFrom_mod hM _ (fun q hq o ho => by subst hq; exact o5.cells ho)), bel.trans (hM.below bel.size (fun q _ hq => by omega))⟩
  rcases i with _ | _ | i
  · simp
  · simp
  · omega
end Go.Proofs.Ytgfcnkfmgpakkaa
