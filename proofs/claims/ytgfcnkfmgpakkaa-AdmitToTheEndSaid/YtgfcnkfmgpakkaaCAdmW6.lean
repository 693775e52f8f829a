/-
The law AdmitKeeps, walked.
-/
import Derived.Test.YtgfcnkfmgpakkaaCAdmW1
import Derived.Test.YtgfcnkfmgpakkaaCOpenC
namespace Go.Proofs.Ytgfcnkfmgpakkaa
open Go.RowKit
set_option linter.unusedVariables false
set_option linter.unusedSimpArgs false
theorem colOf_len (ps : List (List Int)) : (colOf ps).length = ps.length := by simp [colOf]
theorem colOf_at (ps : List (List Int)) {i : Nat} (h : i < ps.length) : fAt (colOf ps) i = pAt ps i 0 := by
  simp [colOf, fAt, pAt, rowAt, List.getElem?_map, List.getElem?_eq_getElem h]
theorem tailsOf_row (ps : List (List Int)) (i : Nat) : rowAt (tailsOf ps) i = (rowAt ps i).tail := by
  unfold rowAt tailsOf
  rw [List.getElem?_map]
  cases ps[i]? <;> rfl
theorem planB_next {js : List GJob} {sup : List Int} {ps : List (List Int)} (h : planB js sup ps = true) (hT : 0 < sup.length) : okD js sup (colOf ps) = true ∧ planB (nextJs js (colOf ps)) sup.tail (tailsOf ps) = true := by
  obtain ⟨h1, h2, h3, h4⟩ := planB_iff.1 h
  have hd : ∀ i, i < js.length → fAt (colOf ps) i = pAt ps i 0 := fun i hi => colOf_at ps (by omega)
  have hD := okD_plan h1 hT (by rw [colOf_len, h2]) h4 hd
  refine ⟨hD, planB_iff.2 ⟨okP_next hD, by rw [nextJs_len, List.length_map, h2], fun i hi => ?_, ?_⟩⟩
  · rw [nextJs_len] at hi
    rw [tailsOf_row, List.length_tail, List.length_tail, h3 i hi]
  · have e : pAt (tailsOf ps) = fun i t => pAt ps i (t + 1) := by
      funext i t
      show fAt (rowAt (tailsOf ps) i) t = _
      rw [tailsOf_row, fAt_tail]
    rw [e]
    exact plan_next h1 hT h4 hd
theorem planB_over {js : List GJob} {sup : List Int} {ps : List (List Int)} (h : planB js sup ps = true) {i : Nat} (hi : i < js.length) (ht : (jAt js i).till = 0) : (jAt js i).energy = 0 := plan_over (planB_iff.1 h).2.2.2 hi ht
set_option maxRecDepth 100000 in
set_option maxHeartbeats 8000000 in
theorem walk_AdmitKeeps (A : Option Addr) (c N : Nat) (js : List GJob) {w : World} (hR : Rd 5 encJ w A js) (HN : Hid (js.length = N)) (hl : N ≤ 9223372036854775807) (_ : ∀ x, x ∈ js → wfJ x)
    (A2 : Option Addr) (c2 T : Nat) (sup : List Int) (hR2 : Rd 1 encI w A2 sup) (HN2 : Hid (sup.length = T)) (hl2 : T ≤ 9223372036854775807) (_ : ∀ x, x ∈ sup → wf64 x) (hcap2 : T ≤ c2 ∧ c2 ≤ 9223372036854775807)
    (A5 : Option Addr) (c5 N5 : Nat) (rs : List RowV) (ps : List (List Int)) (hR5 : RdP w A5 rs ps) (HN5 : Hid (ps.length = N5)) (hl5 : N5 ≤ 9223372036854775807) (hcaps : ∀ r, r ∈ rs → r.n ≤ r.c) :
    Calls Try.prog 5 #[.slice A N c, .slice A2 T c2, .slice A5 N5 c5] w fun e w' => e = .returned (.bool true) ∧ Below w.heap.size w w' := by
  go_enter Try.func5, Try.ntmps5
  go_wp2_with fail
  refine (laHead_any _).mono ?_
  rintro e w1 ⟨rfl, hb1⟩
  have b1 := hb1
  have af : Below w1.heap.size w1 (w1.alloc (.cells #[.slice A2 T c2] 23)) := (Below.refl _ _).alloc (Nat.le_refl _) _
  have rf : Rd 1 encRow (w1.alloc (.cells #[.slice A2 T c2] 23)) (some ⟨w1.heap.size, 0, none⟩) [⟨A2, T, c2⟩] := rd_rows w1 [⟨A2, T, c2⟩]
  have b2 := below_then b1 af
  clear hb1 b1 
  go_wp2_with fail
  refine (laFew_any A _ c N 1 1 [⟨A2, T, c2⟩] _ rf (Lib.hid rfl) (by omega) hl (fun r hr => by simp at hr; subst hr; exact hl2)).mono ?_
  rintro e w2 ⟨rfl, hw2⟩
  have hb2w : Below w.heap.size w w2 := by rw [hw2]; exact b2
  clear af rf b2 hw2
  have B2 := Lib.hid hb2w
  clear hb2w
  cases hfew : fewL [⟨A2, T, c2⟩] N
  · go_wp2_with fail
    go_ret
    exact ⟨rfl, B2.out⟩
  have hN := fewL_N hfew
  have hT : T ≤ 40 := fewL_r hfew (r := ⟨A2, T, c2⟩) (by simp)
  clear hfew
  by_cases h20 : N5 ≤ 20
  case neg =>
    have h20z : (20 : Int) < (N5 : Int) := by omega
    go_wp2_with fail
    go_ret
    exact ⟨rfl, B2.out⟩
  have h20z : ¬ (20 : Int) < (N5 : Int) := by omega
  go_wp2_with fail
  refine (rpCheckPlan_any A A2 A5 c N c2 T c5 N5 js sup rs ps w2 (hR.keep B2.out) HN hl (hR2.keep B2.out) HN2 hl2 (hR5.keep B2.out) HN5 hl5).mono ?_
  rintro e w3 ⟨rfl, hb3⟩
  have B3 := Lib.hid (below_then B2.out hb3)
  clear hb3 B2
  cases hp : planB js sup ps
  · go_wp2_with fail
    go_ret
    exact ⟨rfl, B3.out⟩
  by_cases hT0 : T = 0
  · subst hT0
    go_wp2_with fail
    go_ret
    exact ⟨rfl, B3.out⟩
  have hTz : ((T : Int) == 0) = false := by simp; omega
  obtain ⟨q1, q2, q3, q4⟩ := planB_iff.1 hp
  obtain ⟨hD, hN2⟩ := planB_next hp (by rw [HN2.out]; omega)
  have hNN : N5 = N := by rw [← HN5.out, ← HN.out, q2]
  subst hNN
  have HD := Lib.hid hD
  have HNX := Lib.hid hN2
  have HROW : Hid (∀ k, k < N5 → (rowAt ps k).length = T) := Lib.hid (fun k hk => by rw [q3 k (by rw [HN.out]; exact hk), HN2.out])
  have HLD : Hid ((colOf ps).length = N5) := Lib.hid (by rw [colOf_len, HN5.out])
  have HLJ : Hid ((nextJs js (colOf ps)).length = N5) := Lib.hid (by rw [nextJs_len, HN.out])
  have HLT : Hid (sup.tail.length = T - 1) := Lib.hid (by rw [List.length_tail, HN2.out])
  have HLP : Hid ((tailsOf ps).length = N5) := Lib.hid (by rw [List.length_map, HN5.out])
  have hcap2' : T ≤ c2 := hcap2.1
  clear hp q1 q2 q3 q4 hD hN2
  go_wp2_with fail
  refine (laColumn_any A5 c5 N5 rs ps w3 (hR5.keep B3.out) hcaps HN5 (by omega)).mono ?_
  rintro e w4 ⟨hb4, hp⟩
  rcases hp with ⟨⟨k, hk, hz⟩, _⟩ | ⟨_, a, d, a2, d2, rs', rfl, r1, r2, r3⟩
  · exfalso
    have := HROW.out k hk
    omega
  have B4 := Lib.hid (below_then B3.out hb4)
  have HR1 := Lib.hid r1
  have HR2 := Lib.hid r2
  clear hb4 r1 r2 r3 B3
  go_wp2_with fail
  refine (aAdvance_any A A2 a c N5 c2 T d N5 js sup (colOf ps) w4 (hR.keep B4.out) HN hl (hR2.keep B4.out) HN2 hl2 HR1.out HLD hl hcap2').mono ?_
  rintro e w5 ⟨hb5, hp⟩
  rcases hp with ⟨h, _⟩ | ⟨_, b, f, b2, f2, rfl, _, r3, r4⟩
  · rw [HD.out] at h; cases h
  have B5 := Lib.hid (below_then B4.out hb5)
  have HR3 := Lib.hid r3
  have HR4 := Lib.hid r4
  have HR2' := Lib.hid (HR2.out.keep hb5)
  clear hb5 r3 r4 B4 HR2 HR1
  go_wp2_with fail
  refine (rpCheckPlan_any b b2 a2 f N5 f2 (T - 1) d2 N5 (nextJs js (colOf ps)) sup.tail rs' (tailsOf ps) w5 HR3.out HLJ hl HR4.out HLT (by omega) HR2'.out HLP hl).mono ?_
  rintro e w6 ⟨rfl, hb6⟩
  rw [HNX.out]
  have b6 := below_then B5.out hb6
  go_wp2_with fail
  go_ret
  exact ⟨rfl, b6⟩
end Go.Proofs.Ytgfcnkfmgpakkaa
