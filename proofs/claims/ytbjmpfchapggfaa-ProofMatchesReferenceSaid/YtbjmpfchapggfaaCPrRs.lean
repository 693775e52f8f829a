/-
The reference's Same, for proofs.
-/
import Derived.Test.YtbjmpfchapggfaaGLRefA
import Derived.Test.YtbjmpfchapggfaaGLPrV
namespace Go.Proofs.Ytbjmpfchapggfaa
open Go.RowKit
set_option linter.unusedVariables false
set_option linter.unusedSimpArgs false
set_option maxRecDepth 100000 in
set_option maxHeartbeats 4000000 in
theorem r10Same_any (A B : Option Addr) (n c m d : Nat) (xs ys : List R3) (w : World) (HA : Hid (Rd 3 enc3 w A xs)) (HB : Hid (Rd 3 enc3 w B ys)) (HN : Hid (xs.length = n)) (HM : Hid (ys.length = m)) (hn : n ≤ 1000000) :
    Calls Try.prog 13 #[.agg #[.slice A n c], .agg #[.slice B m d]] w fun e w' => e = .returned (.bool (decide (xs = ys))) ∧ Below w.heap.size w w' := by
  obtain ⟨W, hW⟩ : ∃ W, W = (w.alloc (.cells #[.slice A n c] 32)).alloc (.cells #[.slice B m d] 32) := ⟨_, rfl⟩
  have hb : Below w.heap.size w W := by rw [hW]; exact ((Below.refl _ _).alloc (Nat.le_refl _) _).alloc (by simp) _
  have kA : W.cell? ⟨w.heap.size, 0, none⟩ = some (.slice A n c) := by rw [hW]; go_simp
  have kB : W.cell? ⟨w.heap.size + 1, 0, none⟩ = some (.slice B m d) := by rw [hW]; go_simp
  have HA := Lib.hid (HA.out.keep hb)
  have HB := Lib.hid (HB.out.keep hb)
  have HBW := Lib.hid hb
  have HW0 := Lib.hid hW
  clear hW hb
  go_enter Try.func13, Try.ntmps13
  go_upto_region 1 with (fail)
  rw [← HW0.out]
  clear HW0
  obtain ⟨X, hX⟩ : ∃ X, X = w.heap.size := ⟨_, rfl⟩
  rw [← hX] at kA kB ⊢
  have HSZ : Hid (w.heap.size = X) := Lib.hid hX.symm
  clear hX
  by_cases hnm : n = m
  case neg =>
    have hz : ¬ (n : Int) = (m : Int) := by omega
    have HF : Hid (false = decide (xs = ys)) := Lib.hid (by
      symm
      simp only [decide_eq_false_iff_not]
      intro e
      apply hnm
      rw [← HN.out, ← HM.out, e])
    go_wp2_with fail
    go_ret
    exact ⟨ret_bool HF.out, HBW.out⟩
  subst hnm
  go_wp2_with fail
  go_loopg [5] n (fun g1 v5 wr => ∃ k : Nat, v5 = .int .i64 k ∧ k ≤ n ∧ n - k ≤ g1 ∧ Hid (xs.take k = ys.take k) ∧ Hid (∃ q, wr = W.drewN q))
  case atStart => exact ⟨0, by go_num, by omega, by omega, Lib.hid rfl, Lib.hid ⟨0, rfl⟩⟩
  case round =>
    obtain ⟨k, rfl, hk, hg1, HT, HW⟩ := hrel
    obtain ⟨q, hq⟩ := HW.out
    subst wr
    by_cases hlt : k < n
    · have hltz : (k : Int) < (n : Int) := by omega
      obtain ⟨ba, oa, x, hAA, hba, hx, hca⟩ := HA.out.at_ (k := k) (by rw [HN.out]; exact hlt)
      obtain ⟨bb, ob, y, hBB, hbb, hy, hcb⟩ := HB.out.at_ (k := k) (by rw [HM.out]; exact hlt)
      obtain ⟨x0, x1, x2⟩ := x
      obtain ⟨y0, y1, y2⟩ := y
      have p0 : W.cell? ⟨ba, oa + k * 3, none⟩ = some (.int .i64 x0) := hca 0 _ rfl
      have p1 : W.cell? ⟨ba, oa + k * 3 + 1, none⟩ = some (.int .i64 x1) := hca 1 _ rfl
      have p2 : W.cell? ⟨ba, oa + k * 3 + 2, none⟩ = some (.int .i64 x2) := hca 2 _ rfl
      have r0 : W.cell? ⟨bb, ob + k * 3, none⟩ = some (.int .i64 y0) := hcb 0 _ rfl
      have r1 : W.cell? ⟨bb, ob + k * 3 + 1, none⟩ = some (.int .i64 y1) := hcb 1 _ rfl
      have r2 : W.cell? ⟨bb, ob + k * 3 + 2, none⟩ = some (.int .i64 y2) := hcb 2 _ rfl
      have HX := Lib.hid (And.intro hx hy)
      subst hAA hBB
      clear hx hy hca hcb
      go_wp2_with fail
      by_cases e : x0 = y0 ∧ x1 = y1 ∧ x2 = y2
      · have HT2 := Lib.hid (take_eq_succ HX.out.1 HX.out.2 HT.out (by obtain ⟨e0, e1, e2⟩ := e; rw [e0, e1, e2]))
        have hb : (x0 == y0 && (x1 == y1 && x2 == y2)) = true := by obtain ⟨e0, e1, e2⟩ := e; simp [e0, e1, e2]
        have hq0 := fun V => eq_row3 x0 x1 x2 y0 y1 y2 V
        rw [hb] at hq0
        clear hb e
        go_quiet (fail)
        go_wp2_with fail
        go_roundg (n - (k + 1))
        case measure => omega
        case rel => exact ⟨k + 1, by go_num, by omega, by omega, HT2, Lib.hid ⟨_, rfl⟩⟩
      · have HF : Hid (false = decide (xs = ys)) := Lib.hid (by
          symm
          simp only [decide_eq_false_iff_not]
          intro e2
          have h1 := HX.out.1
          rw [e2, HX.out.2] at h1
          injection h1 with h1
          injection h1 with h1 h2
          injection h2 with h2 h3
          exact e ⟨h1.symm, h2.symm, h3.symm⟩)
        have hb : (x0 == y0 && (x1 == y1 && x2 == y2)) = false := by
          rw [Bool.eq_false_iff]
          intro h
          simp only [Bool.and_eq_true, beq_iff_eq] at h
          exact e h
        have hq0 := fun V => eq_row3 x0 x1 x2 y0 y1 y2 V
        rw [hb] at hq0
        clear hb e
        go_quiet (fail)
        go_wp2_with fail
        go_ret
        exact ⟨ret_bool HF.out, ⟨HBW.out.os, HBW.out.tape, HBW.out.output, HBW.out.size, HBW.out.block⟩⟩
    · have hltz : ¬ (k : Int) < (n : Int) := by omega
      have HF : Hid (true = decide (xs = ys)) := Lib.hid (by
        symm
        simp only [decide_eq_true_eq]
        have h := HT.out
        rw [List.take_of_length_le (by rw [HN.out]; omega), List.take_of_length_le (by rw [HM.out]; omega)] at h
        exact h)
      go_wp2_with fail
      go_ret
      exact ⟨ret_bool HF.out, ⟨HBW.out.os, HBW.out.tape, HBW.out.output, HBW.out.size, HBW.out.block⟩⟩
end Go.Proofs.Ytbjmpfchapggfaa
