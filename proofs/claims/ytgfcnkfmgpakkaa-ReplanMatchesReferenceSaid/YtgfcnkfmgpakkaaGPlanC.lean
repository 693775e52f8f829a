/-
Several texts in one: PlanC, PlanE, PlanO.
-/
import Derived.Test.YtgfcnkfmgpakkaaCPlanA
import Derived.Test.YtgfcnkfmgpakkaaGFlowR
/-
Contracts of plan.sum and plan.marks.
-/
namespace Go.Proofs.Ytgfcnkfmgpakkaa
open Go.RowKit
set_option linter.unusedVariables false
theorem S_bound3 {xs : List Int} {k : Nat} (h : ∀ i, i < xs.length → -1000000 ≤ fAt xs i ∧ fAt xs i ≤ 1000000) (hk : k ≤ xs.length) (hl : xs.length ≤ 1000000) : -1000000000000 ≤ S k (fAt xs) ∧ S k (fAt xs) ≤ 1000000000000 := by
  have h1 := S_bound (n := k) (c := 1000000) (fun i hi => (h i (by omega)).2)
  have h2 := S_lower (n := k) (c := -1000000) (fun i hi => (h i (by omega)).1)
  omega
set_option maxRecDepth 100000 in
set_option maxHeartbeats 1600000 in
theorem plSum_any (A : Option Addr) (c N : Nat) (xs : List Int) (w : World) (hR : Rd 1 encI w A xs) (HN : Hid (xs.length = N)) (hl : N ≤ 1000000) (hx : ∀ i, i < xs.length → -1000000 ≤ fAt xs i ∧ fAt xs i ≤ 1000000) :
    Calls Try.prog 53 #[.slice A N c] w fun e w' => e = .returned (.int .i64 (S xs.length (fAt xs))) ∧ w' = w := by
  have HR := Lib.hid hR
  have HX := Lib.hid hx
  clear hR hx
  go_enter Try.func53, Try.ntmps53
  go_wp2
  go_loopg [3, 8] N (fun g1 v3 v8 wr => ∃ k : Nat, v8 = .int .i64 k ∧ k ≤ N ∧ N - k ≤ g1 ∧ v3 = .int .i64 (S k (fAt xs)) ∧ w = wr)
  case atStart => exact ⟨0, by go_num, by omega, by omega, by go_num, rfl⟩
  case round =>
    obtain ⟨k, rfl, hk, hg1, rfl, rfl⟩ := hrel
    have bk := S_bound3 HX.out (k := k) (by rw [HN.out]; exact hk) (by rw [HN.out]; exact hl)
    by_cases hlt : k < N
    · have hltz : (k : Int) < (N : Int) := by omega
      obtain ⟨b, off, hA, hbl, hc0⟩ := HR.out.int (k := k) (by rw [HN.out]; exact hlt)
      subst hA
      have hc1 : w.cell? ⟨b, off + k, none⟩ = some (.int .i64 (fAt xs k)) := hc0
      have bx := HX.out k (by rw [HN.out]; exact hlt)
      have Hs : Hid (S (k + 1) (fAt xs) = S k (fAt xs) + fAt xs k) := Lib.hid (S_succ _ _)
      clear hc0
      generalize S k (fAt xs) = sk at *
      generalize fAt xs k = x at *
      go_wp2
      go_roundg (N - (k + 1))
      case measure => omega
      case rel => exact ⟨k + 1, by go_num, by omega, by omega, by rw [Hs.out], rfl⟩
    · have hltz : ¬ (k : Int) < (N : Int) := by omega
      have hkN : k = N := by omega
      have Hk : Hid (S k (fAt xs) = S xs.length (fAt xs)) := Lib.hid (by rw [HN.out, hkN])
      clear hkN
      go_wp2
      go_ret
      exact ⟨ret_int Hk.out, rfl⟩
theorem plSum_two (a b : Int) (w : World) (ha : -1000000 ≤ a ∧ a ≤ 1000000) (hb : -1000000 ≤ b ∧ b ≤ 1000000) :
    Calls Try.prog 53 #[.slice (some ⟨w.heap.size, 0, none⟩) 2 2] (w.alloc (.cells #[.int .i64 a, .int .i64 b] 3)) fun e w' => e = .returned (.int .i64 (a + b)) ∧ w' = w.alloc (.cells #[.int .i64 a, .int .i64 b] 3) := by
  have hr : Rd 1 encI (w.alloc (.cells #[.int .i64 a, .int .i64 b] 3)) (some ⟨w.heap.size, 0, none⟩) [a, b] :=
    (Own.new w 3 #[.int .i64 a, .int .i64 b] undef).rd (Nat.le_refl _) (fun _ => rfl) (fun k x hx j v hv => by
      have hj : j = 0 := by have := (List.getElem?_eq_some_iff.1 hv).1; simp [encI] at this; exact this
      subst hj
      have hk : k < 2 := (List.getElem?_eq_some_iff.1 hx).1
      match k, hk with
      | 0, _ => simp at hx; subst hx; simpa [encI] using hv
      | 1, _ => simp at hx; subst hx; simpa [encI] using hv)
  refine (plSum_any _ 2 2 [a, b] _ hr (Lib.hid rfl) (by omega) (fun i hi => ?_)).mono ?_
  · have : i < 2 := hi
    match i, this with
    | 0, _ => exact ha
    | 1, _ => exact hb
  · rintro e w' ⟨rfl, rfl⟩
    refine ⟨?_, rfl⟩
    simp [S, fAt]
/-- What stands ahead of place i of a list that must increase from 0 on. -/
def befP (xs : List Int) : Nat → Int
  | 0 => -1
  | i + 1 => fAt xs i
def goodTo (xs : List Int) (N : Int) (k : Nat) : Prop := ∀ i, i < k → befP xs i < fAt xs i ∧ fAt xs i < N
noncomputable def marksB (xs : List Int) (N : Int) : Bool := @decide (goodTo xs N xs.length) (Classical.propDecidable _)
theorem marksB_iff {xs : List Int} {N : Int} : marksB xs N = true ↔ goodTo xs N xs.length := by simp [marksB]
theorem marksB_not {xs : List Int} {N : Int} {k : Nat} (hk : k < xs.length) (h : ¬ (befP xs k < fAt xs k ∧ fAt xs k < N)) : marksB xs N = false := by
  simp only [marksB, decide_eq_false_iff_not]
  exact fun g => h (g k hk)
theorem befP_ge {xs : List Int} {N : Int} {k : Nat} (h : goodTo xs N k) : -1 ≤ befP xs k := by
  induction k with
  | zero => exact Int.le_refl _
  | succ k ih =>
    have := ih (fun i hi => h i (by omega))
    have := (h k (by omega)).1
    show -1 ≤ fAt xs k
    omega
def inL (xs : List Int) (t : Nat) : Bool := decide ((t : Int) ∈ xs)
theorem mem_take_succ {xs : List Int} {k : Nat} (hk : k < xs.length) (t : Int) : t ∈ xs.take (k + 1) ↔ (t ∈ xs.take k ∨ t = fAt xs k) := by
  rw [take_snoc (List.getElem?_eq_getElem hk), List.mem_append, List.mem_singleton]
  simp [fAt, List.getElem?_eq_getElem hk]
theorem inL_succ {xs : List Int} {k d : Nat} (hk : k < xs.length) (hd : fAt xs k = d) (i : Nat) : inL (xs.take (k + 1)) i = if i = d then true else inL (xs.take k) i := by
  by_cases e : i = d
  · subst e
    simp only [inL, mem_take_succ hk, hd, if_true]
    simp
  · have ne : ¬ ((i : Int) = (d : Int)) := by omega
    simp only [inL, mem_take_succ hk, hd, e, ne, if_false, or_false]
def MarksPost (w : World) (T : Nat) (xs : List Int) (e : Ending) (w' : World) : Prop :=
  (marksB xs T = false ∧ e = .returned (.tuple #[.slice none 0 0, .bool false]) ∧ Below w.heap.size w w') ∨
  (marksB xs T = true ∧ ∃ g, e = .returned (.tuple #[.slice (some ⟨g, 0, none⟩) T T, .bool true]) ∧ Own w' g 4 T (fun t => .bool (inL xs t)) ∧ w.heap.size ≤ g ∧ Below w.heap.size w w')
set_option maxRecDepth 100000 in
set_option maxHeartbeats 1600000 in
theorem plMarks_any (A : Option Addr) (c N T : Nat) (xs : List Int) (w : World) (hR : Rd 1 encI w A xs) (HN : Hid (xs.length = N)) (hl : N ≤ 9223372036854775807) (hT : T ≤ 24) :
    Calls Try.prog 70 #[.slice A N c, .int .i64 T] w (MarksPost w T xs) := by
  obtain ⟨mb, hmk, hmb⟩ := mk_opq (P := Try.prog) 75 4 (.bool false) 1 Try.underlying75 infoBool rfl T (by omega) (by omega)
  have HR := Lib.hid hR
  have O0 : Hid (Own (w.alloc (.cells mb 4)) w.heap.size 4 T (fun t => .bool (inL (xs.take 0) t))) := Lib.hid ((hmb w _ rfl).congr (fun i _ => by simp [inL]))
  have B0 : Hid (Below w.heap.size w (w.alloc (.cells mb 4))) := Lib.hid ((Below.refl _ w).alloc (Nat.le_refl _) _)
  clear hR hmb
  go_enter Try.func70, Try.ntmps70
  go_wp2
  go_loopg [7, 14] N (fun g1 v7 v14 wr => ∃ k : Nat, v14 = .int .i64 k ∧ k ≤ N ∧ N - k ≤ g1 ∧ v7 = .int .i64 (befP xs k) ∧ Hid (goodTo xs T k) ∧ Hid (Own wr w.heap.size 4 T (fun t => .bool (inL (xs.take k) t))) ∧ Hid (Below w.heap.size w wr))
  case atStart => exact ⟨0, by go_num, by omega, by omega, rfl, Lib.hid (fun i hi => absurd hi (Nat.not_lt_zero _)), O0, B0⟩
  case round =>
    clear O0 B0 hmk
    obtain ⟨k, rfl, hk, hg1, rfl, HG, HO, HB⟩ := hrel
    have bf := befP_ge HG.out
    by_cases hlt : k < N
    · have hltz : (k : Int) < (N : Int) := by omega
      obtain ⟨b, off, hA, hbl, hc0⟩ := (HR.out.keep HB.out).int (k := k) (by rw [HN.out]; exact hlt)
      subst hA
      have hc1 : wr.cell? ⟨b, off + k, none⟩ = some (.int .i64 (fAt xs k)) := hc0
      clear hc0
      have hkx : k < xs.length := by rw [HN.out]; exact hlt
      by_cases h1 : befP xs k < fAt xs k
      · by_cases h2 : fAt xs k < (T : Int)
        · obtain ⟨d, hd⟩ : ∃ d : Nat, fAt xs k = d := ⟨(fAt xs k).toNat, by omega⟩
          have HG2 : Hid (goodTo xs T (k + 1)) := Lib.hid (fun i hi => by
            by_cases e : i = k
            · subst e; exact ⟨h1, h2⟩
            · exact HG.out i (by omega))
          rw [hd] at hc1 h1 h2
          have hdT : d < T := by omega
          have x1 := HO.out.cell hdT
          have x2 := HO.out.frozen d
          have HO2 : Hid (Own (wr.setCell ⟨w.heap.size, d, none⟩ (.bool true)) w.heap.size 4 T (fun t => .bool (inL (xs.take (k + 1)) t))) := Lib.hid ((HO.out.set d (.bool true)).congr (fun i hi => by
            rw [inL_succ hkx hd]
            by_cases e : i = d <;> simp [e]))
          have HB2 : Hid (Below w.heap.size w (wr.setCell ⟨w.heap.size, d, none⟩ (.bool true))) := Lib.hid (HB.out.setCell (p := ⟨w.heap.size, d, none⟩) (Nat.le_refl _) _)
          have Hb2 : Hid (befP xs (k + 1) = (d : Int)) := Lib.hid hd
          clear HO HB HG hd
          generalize befP xs k = bb at *
          go_wp2
          go_roundg (N - (k + 1))
          case measure => omega
          case rel => exact ⟨k + 1, by go_num, by omega, by omega, by rw [Hb2.out], HG2, HO2, HB2⟩
        · have HF : Hid (marksB xs T = false) := Lib.hid (marksB_not hkx (fun h => h2 h.2))
          generalize befP xs k = bb at *
          generalize fAt xs k = x at *
          go_wp2
          go_ret2
          exact .inl ⟨HF.out, rfl, HB.out⟩
      · have HF : Hid (marksB xs T = false) := Lib.hid (marksB_not hkx (fun h => h1 h.1))
        generalize befP xs k = bb at *
        generalize fAt xs k = x at *
        go_wp2
        go_ret2
        exact .inl ⟨HF.out, rfl, HB.out⟩
    · have hltz : ¬ (k : Int) < (N : Int) := by omega
      have hkN : k = xs.length := by rw [HN.out]; omega
      have HF : Hid (marksB xs T = true) := Lib.hid (marksB_iff.2 (by rw [← hkN]; exact HG.out))
      have HO2 : Hid (Own wr w.heap.size 4 T (fun t => .bool (inL xs t))) := Lib.hid (by have := HO.out; rwa [List.take_of_length_le (by omega)] at this)
      clear hkN HG HO
      go_wp2
      go_ret2
      exact .inr ⟨HF.out, _, rfl, HO2.out, Nat.le_refl _, HB.out⟩
end Go.Proofs.Ytgfcnkfmgpakkaa
/-
Plain: sums over a list that increases are sums over the places that it names; what CheckCut reckons.
-/
namespace Go.Proofs.Ytgfcnkfmgpakkaa
set_option linter.unusedVariables false
theorem good_lt {xs : List Int} {N : Int} {k : Nat} (h : goodTo xs N k) : ∀ i j, i < j → j < k → fAt xs i < fAt xs j := by
  intro i j
  induction j with
  | zero => omega
  | succ j ih =>
    intro hij hj
    have h1 : fAt xs j < fAt xs (j + 1) := (h (j + 1) hj).1
    by_cases e : i = j
    · subst e; exact h1
    · have := ih (by omega) (by omega); omega
theorem good_ge {xs : List Int} {N : Int} {k : Nat} (h : goodTo xs N k) {i : Nat} (hi : i < k) : 0 ≤ fAt xs i ∧ fAt xs i < N := by
  have := befP_ge (xs := xs) (N := N) (k := i) (fun j hj => h j (by omega))
  have := h i hi
  omega
theorem good_up {xs : List Int} {N : Int} {k : Nat} (h : goodTo xs N k) {i : Nat} (hi : i < k) : (i : Int) ≤ fAt xs i := by
  induction i with
  | zero => exact (good_ge h hi).1
  | succ i ih =>
    have := ih (by omega)
    have := good_lt h i (i + 1) (by omega) hi
    omega
theorem good_len {xs : List Int} {N : Nat} (h : goodTo xs N xs.length) : xs.length ≤ N := by
  rcases Nat.eq_zero_or_pos xs.length with e | e
  · omega
  · have h1 := good_up h (i := xs.length - 1) (by omega)
    have h2 := (good_ge h (i := xs.length - 1) (by omega)).2
    omega
theorem mem_take_at {xs : List Int} {k : Nat} {x : Int} (h : x ∈ xs.take k) : ∃ i, i < k ∧ i < xs.length ∧ fAt xs i = x := by
  obtain ⟨i, hi, e⟩ := List.getElem_of_mem h
  rw [List.length_take] at hi
  refine ⟨i, by omega, by omega, ?_⟩
  rw [List.getElem_take] at e
  simp [fAt, List.getElem?_eq_getElem (show i < xs.length by omega), e]
/-- A sum over an increasing list. -/
theorem S_list {xs : List Int} {N : Nat} (f : Nat → Int) {k : Nat} (hk : k ≤ xs.length) (h : goodTo xs N k) : S k (fun i => f (fAt xs i).toNat) = S N (fun i => pick (inL (xs.take k) i = true) (f i)) := by
  induction k with
  | zero => rw [S_congr (n := N) (h := fun _ => 0) (fun i _ => pick_neg (by simp [inL]) _), S_zero]; rfl
  | succ k ih =>
    have hg : goodTo xs N k := fun i hi => h i (by omega)
    rw [S_succ, ih (by omega) hg]
    obtain ⟨d, hd⟩ : ∃ d : Nat, fAt xs k = d := ⟨(fAt xs k).toNat, by have := (good_ge h (i := k) (by omega)).1; omega⟩
    have hdN : d < N := by have := (good_ge h (i := k) (by omega)).2; omega
    have hnew : inL (xs.take k) d = false := by
      unfold inL
      rw [decide_eq_false_iff_not]
      intro hm
      obtain ⟨i, hi, _, e⟩ := mem_take_at hm
      have := good_lt h i k hi (by omega)
      omega
    rw [S_change (n := N) (k := d) hdN (h := fun i => pick (inL (xs.take k) i = true) (f i)) (g := fun i => pick (inL (xs.take (k + 1)) i = true) (f i)) (fun i _ hne => by rw [inL_succ (by omega) hd, if_neg hne])]
    have e1 : pick (inL (xs.take (k + 1)) d = true) (f d) = f d := pick_pos (by rw [inL_succ (by omega) hd, if_pos rfl]) _
    have e2 : pick (inL (xs.take k) d = true) (f d) = 0 := pick_neg (by rw [hnew]; simp) _
    rw [e1, e2, hd]
    simp
theorem S_list_all {xs : List Int} {N : Nat} (f : Nat → Int) (h : goodTo xs N xs.length) : S xs.length (fun i => f (fAt xs i).toNat) = S N (fun i => pick (inL xs i = true) (f i)) := by
  have := S_list f (Nat.le_refl _) h
  rwa [List.take_of_length_le (Nat.le_refl _)] at this
def freeJ (js : List GJob) (T : Nat) (cs : Nat → Bool) (i : Nat) : Int := S T (fun t => pick (inJ (jAt js i) t ∧ cs t = false) (jAt js i).rate)
/-- What a job's slots outside the cut add, for the first m of them. -/
def freeTo (j : GJob) (cs : Nat → Bool) (m : Nat) : Int := S m (fun q => pick (cs (j.frm.toNat + q) = false) j.rate)
theorem freeTo_all {js : List GJob} {sup : List Int} (hok : okP js sup = true) (cs : Nat → Bool) {i : Nat} (hi : i < js.length) : freeTo (jAt js i) cs (lenJ (jAt js i)) = freeJ js sup.length cs i := by
  obtain ⟨a, b, c, _⟩ := okP_job hok hi
  unfold freeTo freeJ
  rw [S_slots a b c (fun t => pick (cs t = false) (jAt js i).rate)]
  refine S_congr fun t _ => ?_
  unfold pick
  by_cases x : inJ (jAt js i) t <;> by_cases y : cs t = false <;> simp [x, y]
noncomputable def cutPB (js : List GJob) (sup cj cs : List Int) : Bool := okP js sup && (marksB cj js.length && marksB cs sup.length && decide (roomC js sup (inL cj) (inL cs) < needC js (inL cj)))
theorem cut_need {js : List GJob} {cj : List Int} (h : goodTo cj js.length cj.length) : S cj.length (fun k => (jAt js (fAt cj k).toNat).energy) = needC js (inL cj) := S_list_all (fun i => (jAt js i).energy) h
theorem cut_room {js : List GJob} {sup cj cs : List Int} (h : goodTo cj js.length cj.length) (h2 : goodTo cs sup.length cs.length) : S cs.length (fun k => fAt sup (fAt cs k).toNat) + S cj.length (fun k => freeJ js sup.length (inL cs) (fAt cj k).toNat) = roomC js sup (inL cj) (inL cs) := by
  rw [S_list_all (fun t => fAt sup t) h2, S_list_all (fun i => freeJ js sup.length (inL cs) i) h]
  rfl
end Go.Proofs.Ytgfcnkfmgpakkaa
/-
Plans as slices of slices: reading, what both CheckPlan decide; the reference's Few.
-/
namespace Go.Proofs.Ytgfcnkfmgpakkaa
open Go.RowKit
set_option linter.unusedVariables false
/-- A slice's header. -/
structure RowV where
  a : Option Addr
  n : Nat
  c : Nat
def encRow (r : RowV) : List Value := [.slice r.a r.n r.c]
/-- The slice of slices that begins at A reads as ps; rs are its rows' headers. -/
structure RdP (w : World) (A : Option Addr) (rs : List RowV) (ps : List (List Int)) : Prop where
  top : Rd 1 encRow w A rs
  len : rs.length = ps.length
  row : ∀ (k : Nat) (r : RowV) (p : List Int), rs[k]? = some r → ps[k]? = some p → p.length = r.n ∧ r.n ≤ 9223372036854775807 ∧ Rd 1 encI w r.a p
theorem RdP.keep {w w' : World} {A : Option Addr} {rs : List RowV} {ps : List (List Int)} (h : RdP w A rs ps) (hb : Below w.heap.size w w') : RdP w' A rs ps :=
  ⟨h.top.keep hb, h.len, fun k r p hr hp => ⟨(h.row k r p hr hp).1, (h.row k r p hr hp).2.1, (h.row k r p hr hp).2.2.keep hb⟩⟩
abbrev rowAt (ps : List (List Int)) (i : Nat) : List Int := ps[i]?.getD []
abbrev pAt (ps : List (List Int)) (i t : Nat) : Int := fAt (rowAt ps i) t
theorem RdP.at_ {w : World} {A : Option Addr} {rs : List RowV} {ps : List (List Int)} (h : RdP w A rs ps) {k : Nat} (hk : k < ps.length) :
    ∃ (b off : Nat) (r : RowV), A = some ⟨b, off, none⟩ ∧ b < w.heap.size ∧ w.cell? ⟨b, off + k, none⟩ = some (.slice r.a r.n r.c) ∧ (rowAt ps k).length = r.n ∧ r.n ≤ 9223372036854775807 ∧ Rd 1 encI w r.a (rowAt ps k) := by
  obtain ⟨b, off, r, hA, hlt, hr, hc⟩ := h.top.at_ (k := k) (by rw [h.len]; exact hk)
  have hp : ps[k]? = some (rowAt ps k) := by simp [rowAt, List.getElem?_eq_getElem hk]
  obtain ⟨q1, q2, q3⟩ := h.row k r _ hr hp
  refine ⟨b, off, r, hA, hlt, ?_, q1, q2, q3⟩
  have := hc 0 _ rfl
  simpa using this
noncomputable def planB (js : List GJob) (sup : List Int) (ps : List (List Int)) : Bool :=
  @decide (okP js sup = true ∧ ps.length = js.length ∧ (∀ i, i < js.length → (rowAt ps i).length = sup.length) ∧ IsPlan js sup (pAt ps)) (Classical.propDecidable _)
theorem planB_iff {js : List GJob} {sup : List Int} {ps : List (List Int)} : planB js sup ps = true ↔ (okP js sup = true ∧ ps.length = js.length ∧ (∀ i, i < js.length → (rowAt ps i).length = sup.length) ∧ IsPlan js sup (pAt ps)) := by
  unfold planB
  exact @decide_eq_true_iff _ (Classical.propDecidable _)
theorem planB_not {js : List GJob} {sup : List Int} {ps : List (List Int)} (h : ¬ (okP js sup = true ∧ ps.length = js.length ∧ (∀ i, i < js.length → (rowAt ps i).length = sup.length) ∧ IsPlan js sup (pAt ps))) : planB js sup ps = false := by
  cases e : planB js sup ps
  · rfl
  · exact absurd (planB_iff.1 e) h
/-- What one place of a plan must be. -/
def okAt (j : GJob) (t : Nat) (x : Int) : Prop := 0 ≤ x ∧ x ≤ j.rate ∧ (x ≠ 0 → inJ j t)
def rowOk (js : List GJob) (ps : List (List Int)) (T i : Nat) : Prop := (rowAt ps i).length = T ∧ (∀ t, t < T → okAt (jAt js i) t (pAt ps i t)) ∧ S T (pAt ps i) = (jAt js i).energy
theorem planB_yes {js : List GJob} {sup : List Int} {ps : List (List Int)} (h1 : okP js sup = true) (h2 : ps.length = js.length) (h3 : ∀ i, i < js.length → rowOk js ps sup.length i) (h4 : ∀ t, t < sup.length → S js.length (fun i => pAt ps i t) ≤ fAt sup t) : planB js sup ps = true :=
  planB_iff.2 ⟨h1, h2, fun i hi => (h3 i hi).1, ⟨fun i t hi ht => ((h3 i hi).2.1 t ht).1, fun i t hi ht => ((h3 i hi).2.1 t ht).2.1, fun i t hi ht hn => by
    have := ((h3 i hi).2.1 t ht).2.2
    by_cases e : pAt ps i t = 0
    · exact e
    · exact absurd (this e) hn, fun i hi => (h3 i hi).2.2, h4⟩⟩
theorem planB_row {js : List GJob} {sup : List Int} {ps : List (List Int)} {i : Nat} (hi : i < js.length) (h : ¬ rowOk js ps sup.length i) : planB js sup ps = false :=
  planB_not (fun ⟨_, _, h3, h4⟩ => h ⟨h3 i hi, fun t ht => ⟨h4.lo i t hi ht, h4.hi i t hi ht, fun hx => Classical.byContradiction fun hn => hx (h4.out i t hi ht hn)⟩, h4.got i hi⟩)
theorem planB_fits {js : List GJob} {sup : List Int} {ps : List (List Int)} {t : Nat} (ht : t < sup.length) (h : ¬ S js.length (fun i => pAt ps i t) ≤ fAt sup t) : planB js sup ps = false :=
  planB_not (fun ⟨_, _, _, h4⟩ => h (h4.fits t ht))
theorem rows_bound {js : List GJob} {sup : List Int} {ps : List (List Int)} (hok : okP js sup = true) {k : Nat} (hk : k ≤ js.length) (h : ∀ i, i < k → rowOk js ps sup.length i) {t : Nat} (ht : t < sup.length) : 0 ≤ S k (fun i => pAt ps i t) ∧ S k (fun i => pAt ps i t) ≤ 12000 := by
  have h1 := S_nonneg (n := k) (g := fun i => pAt ps i t) (fun i hi => ((h i hi).2.1 t ht).1)
  have h2 := S_bound (n := k) (g := fun i => pAt ps i t) (c := 1000) (fun i hi => by
    have a := ((h i hi).2.1 t ht).2.1
    have b := (okP_job hok (i := i) (by omega)).2.2.2.2.2.2.1
    show pAt ps i t ≤ 1000
    omega)
  have := (okP_iff.1 hok).1.1
  omega
def fewB (js : List GJob) (sup : List Int) (ps : List (List Int)) (cj cs : List Int) : Bool := ps.all (fun p => decide (p.length ≤ 50)) && decide (js.length ≤ 30 ∧ sup.length ≤ 50 ∧ ps.length ≤ 30 ∧ cj.length ≤ 50 ∧ cs.length ≤ 50)
end Go.Proofs.Ytgfcnkfmgpakkaa
