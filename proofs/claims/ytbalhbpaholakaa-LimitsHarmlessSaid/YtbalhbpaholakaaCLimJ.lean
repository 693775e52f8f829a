/-
The reference's Same for rows.
-/
import Derived.Test.YtbalhbpaholakaaCLimG
import Derived.Test.YtbalhbpaholakaaGLRefA
import Derived.StillTailTactics
namespace Go.Proofs.Ytbalhbpaholakaa
open Go.RowKit
set_option linter.unusedVariables false
set_option linter.unusedSimpArgs false
set_option maxRecDepth 100000 in
set_option maxHeartbeats 4000000 in
theorem r9Same_any (A B : Option Addr) (n c m d : Nat) (hs ks : List RowH) (xs ys : List GRow) (w : World) (HA : Hid (RdRows w A hs xs)) (HB : Hid (RdRows w B ks ys)) (HN : Hid (xs.length = n)) (HM : Hid (ys.length = m)) (hn : n ≤ 1000000) (HLN : Hid (∀ r, r ∈ xs → r.mem.length ≤ 1000000)) :
    Calls Try.prog 21 #[.slice A n c, .slice B m d] w fun e w' => e = .returned (.bool (decide (xs = ys))) ∧ Below w.heap.size w w' := by
  go_enter Try.func21, Try.ntmps21
  by_cases hnm : n = m
  case neg =>
    have hz : ¬ (n : Int) = (m : Int) := by omega
    have HF : Hid (false = decide (xs = ys)) := Lib.hid (by
      symm
      simp only [decide_eq_false_iff_not]
      intro e
      apply hnm
      rw [← HN.out, ← HM.out, e])
    go_wp2_with fail
    go_ret
    exact ⟨ret_bool HF.out, Below.refl _ _⟩
  subst hnm
  go_wp2_with fail
  go_loopg [5] n (fun g1 v5 wr => ∃ k : Nat, v5 = .int .i64 k ∧ k ≤ n ∧ n - k ≤ g1 ∧ Hid (xs.take k = ys.take k) ∧ Hid (Below w.heap.size w wr))
  case atStart => exact ⟨0, by go_num, by omega, by omega, Lib.hid rfl, Lib.hid (Below.refl _ _)⟩
  case round =>
    obtain ⟨k, rfl, hk, hg1, HT, HW⟩ := hrel
    by_cases hlt : k < n
    · have hltz : (k : Int) < (n : Int) := by omega
      obtain ⟨ba, oa, x, hAA, hba, hx, hca⟩ := HA.out.1.at_ (k := k) (by rw [HA.out.2.1, HN.out]; exact hlt)
      obtain ⟨bb, ob, y, hBB, hbb, hy, hcb⟩ := HB.out.1.at_ (k := k) (by rw [HB.out.2.1, HM.out]; exact hlt)
      have hxr : xs[k]? = some (xs[k]'(by rw [HN.out]; exact hlt)) := List.getElem?_eq_getElem _
      have hyr : ys[k]? = some (ys[k]'(by rw [HM.out]; exact hlt)) := List.getElem?_eq_getElem _
      generalize xs[k]'(by rw [HN.out]; exact hlt) = r at *
      generalize ys[k]'(by rw [HM.out]; exact hlt) = r' at *
      obtain ⟨x0, xa, xn, xd⟩ := x
      obtain ⟨y0, ya, yn, yd⟩ := y
      obtain ⟨mx1, mx2, mx3⟩ := HA.out.2.2 k _ _ hx hxr
      obtain ⟨my1, my2, my3⟩ := HB.out.2.2 k _ _ hy hyr
      dsimp only at mx1 mx2 mx3 my1 my2 my3
      have p0 : wr.cell? ⟨ba, oa + k * 2, none⟩ = some (.int .i64 x0) := (HW.out.cell (p := ⟨ba, oa + k * 2, none⟩) hba).trans (hca 0 _ rfl)
      have p1 : wr.cell? ⟨ba, oa + k * 2 + 1, none⟩ = some (.slice xa xn xd) := (HW.out.cell (p := ⟨ba, oa + k * 2 + 1, none⟩) hba).trans (hca 1 _ rfl)
      have r0 : wr.cell? ⟨bb, ob + k * 2, none⟩ = some (.int .i64 y0) := (HW.out.cell (p := ⟨bb, ob + k * 2, none⟩) hbb).trans (hcb 0 _ rfl)
      have r1 : wr.cell? ⟨bb, ob + k * 2 + 1, none⟩ = some (.slice ya yn yd) := (HW.out.cell (p := ⟨bb, ob + k * 2 + 1, none⟩) hbb).trans (hcb 1 _ rfl)
      have HX := Lib.hid (And.intro hxr hyr)
      have HI := Lib.hid (r4Ints_any xa ya xn xd yn yd r.mem r'.mem wr.drew (Lib.hid ((mx3.keep HW.out).drewN 1)) (Lib.hid ((my3.keep HW.out).drewN 1)) (Lib.hid mx2.symm) (Lib.hid my2.symm) (by have := HLN.out r (List.mem_of_getElem? hxr); omega))
      have HC := Lib.hid (And.intro mx1 my1)
      have HBA : Hid (ba < wr.heap.size ∧ bb < wr.heap.size) := Lib.hid (by have := HW.out.size; omega)
      subst hAA hBB
      clear hx hy hxr hyr hca hcb mx1 mx2 mx3 my1 my2 my3 hba hbb
      go_wp2_with fail
      go_still_tail 10, (by kernel_rfl)
      change wpList _ _ _ _ _ wr.drew
      go_wp2_with fail
      refine HI.out.mono ?_
      rintro e w2 ⟨rfl, hb2⟩
      have hbw : Below wr.heap.size wr w2 := (below_drew wr).trans hb2
      have q0 := (hbw.cell (p := ⟨ba, oa + k * 2, none⟩) HBA.out.1).trans p0
      have q1 := (hbw.cell (p := ⟨bb, ob + k * 2, none⟩) HBA.out.2).trans r0
      have HW2 := Lib.hid (below_then HW.out hbw)
      clear hb2 hbw p0 p1 r0 r1 HI
      go_wp2_with fail
      by_cases e : r.mem = r'.mem
      · have he : decide (r.mem = r'.mem) = true := decide_eq_true e
        by_cases e2 : x0 = y0
        · have HT2 := Lib.hid (take_eq_succ HX.out.1 HX.out.2 HT.out (by
            obtain ⟨c1, c2⟩ := HC.out
            cases r
            cases r'
            simp at c1 c2 e ⊢
            exact ⟨by rw [← c1, ← c2, e2], e⟩))
          subst e2
          clear e
          rw [he]
          go_quiet (fail)
          go_wp2_with fail
          go_roundg (n - (k + 1))
          case measure => omega
          case rel => exact ⟨k + 1, by go_num, by omega, by omega, HT2, Lib.hid (below_drewG _ HW2.out)⟩
        · have HF : Hid (false = decide (xs = ys)) := Lib.hid (by
            symm
            simp only [decide_eq_false_iff_not]
            intro e3
            have h1 := HX.out.1
            rw [e3, HX.out.2] at h1
            injection h1 with h1
            apply e2
            rw [HC.out.1, HC.out.2, h1])
          have hd2 : decide (x0 = y0) = false := decide_eq_false e2
          have hd3 : (x0 == y0) = false := by simpa using e2
          clear e
          rw [he]
          go_quiet (fail)
          go_wp2_with fail
          go_ret
          exact ⟨ret_bool HF.out, below_drewG _ HW2.out⟩
      · have he : decide (r.mem = r'.mem) = false := decide_eq_false e
        have HF : Hid (false = decide (xs = ys)) := Lib.hid (by
          symm
          simp only [decide_eq_false_iff_not]
          intro e3
          have h1 := HX.out.1
          rw [e3, HX.out.2] at h1
          injection h1 with h1
          apply e
          rw [h1])
        clear e
        rw [he]
        go_quiet (fail)
        go_wp2_with fail
        go_ret
        exact ⟨ret_bool HF.out, below_drewG _ HW2.out⟩
    · have hltz : ¬ (k : Int) < (n : Int) := by omega
      have HF : Hid (true = decide (xs = ys)) := Lib.hid (by
        symm
        simp only [decide_eq_true_eq]
        have h := HT.out
        rw [List.take_of_length_le (by rw [HN.out]; omega), List.take_of_length_le (by rw [HM.out]; omega)] at h
        exact h)
      go_wp2_with fail
      go_ret
      exact ⟨ret_bool HF.out, HW.out⟩
end Go.Proofs.Ytbalhbpaholakaa
