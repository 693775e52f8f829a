/-
The laws PlanProof and PlanNotBoth, walked.
-/
import Derived.Test.YtickndjlhokppaaGHead
import Derived.Test.YtickndjlhokppaaGPlanP
import Derived.Test.YtickndjlhokppaaGRefA
import Derived.Test.YtickndjlhokppaaGOpen
namespace Go.Proofs.Ytickndjlhokppaa
open Go.RowKit
set_option linter.unusedVariables false
theorem RdP.nil {w : World} {A : Option Addr} : RdP w A [] [] := ⟨Rd.nil, rfl, fun k r p h => by simp at h⟩
set_option maxRecDepth 100000 in
set_option maxHeartbeats 2000000 in
theorem walk_PlanProof (A : Option Addr) (c N : Nat) (js : List GJob) {w : World} (hR : Rd 5 encJ w A js) (HN : Hid (js.length = N)) (hl : N ≤ 9223372036854775807) (_ : ∀ x, x ∈ js → wfJ x)
    (A2 : Option Addr) (c2 T : Nat) (sup : List Int) (hR2 : Rd 1 encI w A2 sup) (HN2 : Hid (sup.length = T)) (hl2 : T ≤ 9223372036854775807) (_ : ∀ x, x ∈ sup → wf64 x) :
    Calls Try.prog 4 #[.slice A N c, .slice A2 T c2] w fun e w' => e = .returned (.bool true) ∧ Below w.heap.size w w' := by
  go_enter Try.func4, Try.ntmps4
  go_wp2_with fail
  refine (lpHead_any w).mono ?_
  rintro e w1 ⟨rfl, b1⟩
  go_wp2_with fail
  refine (rpFew_any A A2 none none none c N c2 T 0 0 0 0 0 0 js sup [] [] [] [] w1 HN HN2 RdP.nil (Lib.hid rfl) (by omega) (Lib.hid rfl) (Lib.hid rfl)).mono ?_
  rintro e w2 ⟨rfl, hb2⟩
  have b2 := below_then b1 hb2
  cases hfew : fewB js sup [] [] []
  · go_wp2_with fail
    go_ret
    exact ⟨rfl, b2⟩
  · go_wp2_with fail
    refine (rpValid_any A A2 c N c2 T js sup w2 (hR.keep b2) HN hl (hR2.keep b2) HN2 hl2).mono ?_
    rintro e w3 ⟨rfl, hb3⟩
    have b3 := below_then b2 hb3
    cases hok : okP js sup
    · go_wp2_with fail
      go_ret
      exact ⟨rfl, b3⟩
    · go_wp2_with fail
      refine (plSchedule_any A A2 c N c2 T js sup w3 (hR.keep b3) HN hl (hR2.keep b3) HN2 hl2).mono ?_
      rintro e w4 ⟨hb4, ⟨hok2, rfl⟩ | ⟨gt, rs, ps, rfl, rp, hlp, hpl⟩ | ⟨a3, c3, a4, c4, cj, cs, rfl, r3, r4, hc1, hc2, hcut⟩⟩
      · rw [hok] at hok2
        cases hok2
      · have b4 := below_then b3 hb4
        have ba : Below w.heap.size w (w4.alloc (.cells #[.slice none 0 0, .slice none 0 0] 26)) := b4.alloc b4.size _
        have bb : Below w4.heap.size w4 (w4.alloc (.cells #[.slice none 0 0, .slice none 0 0] 26)) := (Below.refl _ _).alloc (Nat.le_refl _) _
        go_wp2_with fail
        refine (rpCheckPlan_any A A2 (some ⟨gt, 0, none⟩) c N c2 T N N js sup rs ps _ (hR.keep ba) HN hl (hR2.keep ba) HN2 hl2 (rp.keep bb) (Lib.hid hlp) hl).mono ?_
        rintro e w5 ⟨rfl, b5⟩
        rw [hpl]
        go_wp2_with fail
        go_ret
        exact ⟨rfl, below_then ba b5⟩
      · have b4 := below_then b3 hb4
        have ba : Below w.heap.size w (w4.alloc (.cells #[.slice a3 cj.length c3, .slice a4 cs.length c4] 26)) := b4.alloc b4.size _
        have bb : Below w4.heap.size w4 (w4.alloc (.cells #[.slice a3 cj.length c3, .slice a4 cs.length c4] 26)) := (Below.refl _ _).alloc (Nat.le_refl _) _
        go_wp2_with fail
        refine (rpCheckCut_any A A2 a3 a4 c N c2 T c3 cj.length c4 cs.length js sup cj cs _ (hR.keep ba) HN hl (hR2.keep ba) HN2 hl2 (r3.keep bb) (Lib.hid rfl) (by omega) (r4.keep bb) (Lib.hid rfl) (by omega)).mono ?_
        rintro e w5 ⟨rfl, b5⟩
        rw [hcut]
        go_wp2_with fail
        go_ret
        exact ⟨rfl, below_then ba b5⟩
set_option maxRecDepth 100000 in
set_option maxHeartbeats 2000000 in
theorem walk_PlanNotBoth (A : Option Addr) (c N : Nat) (js : List GJob) {w : World} (hR : Rd 5 encJ w A js) (HN : Hid (js.length = N)) (hl : N ≤ 9223372036854775807) (_ : ∀ x, x ∈ js → wfJ x)
    (A2 : Option Addr) (c2 T : Nat) (sup : List Int) (hR2 : Rd 1 encI w A2 sup) (HN2 : Hid (sup.length = T)) (hl2 : T ≤ 9223372036854775807) (_ : ∀ x, x ∈ sup → wf64 x)
    (A5 : Option Addr) (c5 N5 : Nat) (rs : List RowV) (ps : List (List Int)) (hR5 : RdP w A5 rs ps) (HN5 : Hid (ps.length = N5)) (hl5 : N5 ≤ 9223372036854775807)
    (A3 : Option Addr) (c3 N3 : Nat) (cj : List Int) (hR3 : Rd 1 encI w A3 cj) (HN3 : Hid (cj.length = N3)) (hl3 : N3 ≤ 9223372036854775807) (A4 : Option Addr) (c4 N4 : Nat) (cs : List Int) (hR4 : Rd 1 encI w A4 cs) (HN4 : Hid (cs.length = N4)) (hl4 : N4 ≤ 9223372036854775807) :
    Calls Try.prog 5 #[.slice A N c, .slice A2 T c2, .slice A5 N5 c5, .agg #[.slice A3 N3 c3, .slice A4 N4 c4]] w fun e w' => e = .returned (.bool true) ∧ Below w.heap.size w w' := by
  have a0 : Below w.heap.size w (w.alloc (.cells #[.slice A3 N3 c3, .slice A4 N4 c4] 26)) := (Below.refl _ w).alloc (Nat.le_refl _) _
  go_enter Try.func5, Try.ntmps5
  go_wp2_with fail
  refine (lpHead_any _).mono ?_
  rintro e w1 ⟨rfl, hb1⟩
  have k0 : w1.cell? ⟨w.heap.size, 0, none⟩ = some (.slice A3 N3 c3) := (hb1.cell (p := ⟨w.heap.size, 0, none⟩) (by simp)).trans (by go_simp)
  have k1 : w1.cell? ⟨w.heap.size, 1, none⟩ = some (.slice A4 N4 c4) := (hb1.cell (p := ⟨w.heap.size, 1, none⟩) (by simp)).trans (by go_simp)
  have b1 := below_then a0 hb1
  have l1 : w.heap.size < w1.heap.size := World.block_lt_of_cell? w1 _ k0
  clear hb1 a0
  go_wp2_with fail
  refine (rpFew_any A A2 A5 A3 A4 c N c2 T c5 N5 c3 N3 c4 N4 js sup cj cs rs ps w1 HN HN2 (hR5.keep b1) HN5 hl5 HN3 HN4).mono ?_
  rintro e w2 ⟨rfl, hb2⟩
  have b2 := below_then b1 hb2
  cases hfew : fewB js sup ps cj cs
  · go_wp2_with fail
    go_ret
    exact ⟨rfl, b2⟩
  · go_wp2_with fail
    refine (plCheckPlan_any A A2 A5 c N c2 T c5 N5 js sup rs ps w2 (hR.keep b2) HN hl (hR2.keep b2) HN2 hl2 (hR5.keep b2) HN5 hl5).mono ?_
    rintro e w3 ⟨rfl, hb3⟩
    have b3 := below_then b2 hb3
    have hb13 := below_then hb2 hb3
    have k03 := (hb13.cell (p := ⟨w.heap.size, 0, none⟩) l1).trans k0
    have k13 := (hb13.cell (p := ⟨w.heap.size, 1, none⟩) l1).trans k1
    clear k0 k1 hb2 hb3
    go_wp2_with fail
    refine (plCheckCut_any A A2 A3 A4 c N c2 T c3 N3 c4 N4 js sup cj cs w3 (hR.keep b3) HN hl (hR2.keep b3) HN2 hl2 (hR3.keep b3) HN3 hl3 (hR4.keep b3) HN4 hl4).mono ?_
    rintro e w4 ⟨rfl, hb4⟩
    have b4 := below_then b3 hb4
    clear k03 k13 hb13 hb4
    go_wp2_with fail
    refine (plSchedule_any A A2 c N c2 T js sup w4 (hR.keep b4) HN hl (hR2.keep b4) HN2 hl2).mono ?_
    rintro e w5 ⟨hb5, hpost⟩
    have b5 := below_then b4 hb5
    have hnb : Hid (¬ (planB js sup ps = true ∧ cutPB js sup cj cs = true)) := Lib.hid (fun ⟨h1, h2⟩ => cutPB_not h2 (planB_met h1))
    rcases hpost with ⟨hok, rfl⟩ | ⟨gt, rs', ps', rfl, rp, hlp, hpl⟩ | ⟨a3, c3', a4, c4', cj', cs', rfl, r3, r4, hc1, hc2, hcut⟩
    · have h1 : planB js sup ps = false := by
        cases h : planB js sup ps
        · rfl
        · have := (planB_iff.1 h).1; rw [hok] at this; cases this
      have h2 : cutPB js sup cj cs = false := by
        cases h : cutPB js sup cj cs
        · rfl
        · have := (cutPB_cut h).1; rw [hok] at this; cases this
      rw [h1, h2]
      go_wp2_with fail
      go_ret
      exact ⟨rfl, b5.alloc b5.size _⟩
    · have h2 : cutPB js sup cj cs = false := by
        cases h : cutPB js sup cj cs
        · rfl
        · exact absurd (planB_met hpl) (cutPB_not h)
      rw [h2]
      cases h : planB js sup ps <;> (go_wp2_with fail; go_ret; exact ⟨rfl, b5.alloc b5.size _⟩)
    · have h1 : planB js sup ps = false := by
        cases h : planB js sup ps
        · rfl
        · exact absurd (planB_met h) (cutPB_not hcut)
      rw [h1]
      cases h : cutPB js sup cj cs <;> (go_wp2_with fail; go_ret; exact ⟨rfl, b5.alloc b5.size _⟩)
end Go.Proofs.Ytickndjlhokppaa
