/-
The reference: Few, Ints, On, Uses, Currents, Same.
-/
import Derived.Test.YtjlfnhfiiailgaaCTreeI
import Derived.Test.YtjlfnhfiiailgaaCSiteI
import Derived.ChangeKeysEq
namespace Go.Proofs.Ytjlfnhfiiailgaa
open Go.RowKit
set_option linter.unusedVariables false
set_option linter.unusedSimpArgs false
def fewS (s : GSite) : Bool := decide (s.cons.length ≤ 40) && decide (s.owns.length ≤ 40) && decide (s.ctrs.length ≤ 40) && decide (s.chgs.length ≤ 40) && decide (s.bays.length ≤ 40)
set_option maxRecDepth 100000 in
set_option maxHeartbeats 4000000 in
theorem r4Few_any (a1 a2 a3 a4 a5 : Option Addr) (n1 c1 n2 c2 n3 c3 n4 c4 n5 c5 : Nat) (s : GSite) (w : World) (HS : Hid (RdSite w a1 a2 a3 a4 a5 n1 n2 n3 n4 n5 s)) :
    Calls Try.prog 11 #[.agg #[.slice a1 n1 c1, .slice a2 n2 c2, .slice a3 n3 c3, .slice a4 n4 c4, .slice a5 n5 c5]] w fun e w' => e = .returned (.bool (fewS s)) ∧ Below w.heap.size w w' := by
  have HF : Hid (fewS s = (decide (n1 ≤ 40) && decide (n2 ≤ 40) && decide (n3 ≤ 40) && decide (n4 ≤ 40) && decide (n5 ≤ 40))) := Lib.hid (by unfold fewS; rw [HS.out.l1, HS.out.l2, HS.out.l3, HS.out.l4, HS.out.l5])
  have HB : Hid (Below w.heap.size w (w.alloc (.cells #[.slice a1 n1 c1, .slice a2 n2 c2, .slice a3 n3 c3, .slice a4 n4 c4, .slice a5 n5 c5] 28))) := Lib.hid ((Below.refl _ w).alloc (Nat.le_refl _) _)
  go_enter Try.func11, Try.ntmps11
  by_cases h1 : n1 ≤ 40
  case neg =>
    go_wp2_with fail
    go_ret
    exact ⟨ret_bool (by rw [HF.out]; simp [h1]), HB.out⟩
  by_cases h2 : n2 ≤ 40
  case neg =>
    go_wp2_with fail
    go_ret
    exact ⟨ret_bool (by rw [HF.out]; simp [h1, h2]), HB.out⟩
  by_cases h3 : n3 ≤ 40
  case neg =>
    go_wp2_with fail
    go_ret
    exact ⟨ret_bool (by rw [HF.out]; simp [h1, h2, h3]), HB.out⟩
  by_cases h4 : n4 ≤ 40
  case neg =>
    go_wp2_with fail
    go_ret
    exact ⟨ret_bool (by rw [HF.out]; simp [h1, h2, h3, h4]), HB.out⟩
  by_cases h5 : n5 ≤ 40
  case neg =>
    go_wp2_with fail
    go_ret
    exact ⟨ret_bool (by rw [HF.out]; simp [h1, h2, h3, h4, h5] <;> omega), HB.out⟩
  go_wp2_with fail
  go_ret
  exact ⟨ret_bool (by rw [HF.out]; simp [h1, h2, h3, h4, h5] <;> omega), HB.out⟩
theorem take_eq_succ {α : Type} {xs ys : List α} {k : Nat} {x y : α} (hx : xs[k]? = some x) (hy : ys[k]? = some y) (h : xs.take k = ys.take k) (e : x = y) : xs.take (k + 1) = ys.take (k + 1) := by
  rw [take_snoc hx, take_snoc hy, h, e]
set_option maxRecDepth 100000 in
set_option maxHeartbeats 4000000 in
theorem r4Ints_any (A B : Option Addr) (n c m d : Nat) (xs ys : List Int) (w : World) (HA : Hid (Rd 1 encI w A xs)) (HB : Hid (Rd 1 encI w B ys)) (HN : Hid (xs.length = n)) (HM : Hid (ys.length = m)) (hn : n ≤ 9223372036854775806) :
    Calls Try.prog 18 #[.slice A n c, .slice B m d] w fun e w' => e = .returned (.bool (decide (xs = ys))) ∧ Below w.heap.size w w' := by
  go_enter Try.func18, Try.ntmps18
  by_cases hnm : n = m
  case neg =>
    have hz : ¬ (n : Int) = (m : Int) := by omega
    have HF : Hid (false = decide (xs = ys)) := Lib.hid (by
      symm
      simp only [decide_eq_false_iff_not]
      intro e
      apply hnm
      rw [← HN.out, ← HM.out, e])
    go_wp2_with fail
    go_ret
    exact ⟨ret_bool HF.out, Below.refl _ _⟩
  subst hnm
  go_wp2_with fail
  go_loopg [5] n (fun g1 v5 wr => ∃ k : Nat, v5 = .int .i64 k ∧ k ≤ n ∧ n - k ≤ g1 ∧ Hid (xs.take k = ys.take k) ∧ Hid (∃ q, wr = w.drewN q))
  case atStart => exact ⟨0, by go_num, by omega, by omega, Lib.hid rfl, Lib.hid ⟨0, rfl⟩⟩
  case round =>
    obtain ⟨k, rfl, hk, hg1, HT, HW⟩ := hrel
    obtain ⟨q, hq⟩ := HW.out
    subst wr
    by_cases hlt : k < n
    · have hltz : (k : Int) < (n : Int) := by omega
      have hx : xs[k]? = some (xs[k]'(by rw [HN.out]; exact hlt)) := List.getElem?_eq_getElem _
      have hy : ys[k]? = some (ys[k]'(by rw [HM.out]; exact hlt)) := List.getElem?_eq_getElem _
      obtain ⟨ba, oa, hAA, hba, hca⟩ := HA.out.int (k := k) (by rw [HN.out]; exact hlt)
      obtain ⟨bb, ob, hBB, hbb, hcb⟩ := HB.out.int (k := k) (by rw [HM.out]; exact hlt)
      generalize hxx : xs[k]'(by rw [HN.out]; exact hlt) = x at *
      generalize hyy : ys[k]'(by rw [HM.out]; exact hlt) = y at *
      rw [hx] at hca
      rw [hy] at hcb
      have hca : (w.drewN q).cell? ⟨ba, oa + k, none⟩ = some (.int .i64 x) := hca
      have hcb : (w.drewN q).cell? ⟨bb, ob + k, none⟩ = some (.int .i64 y) := hcb
      have HX := Lib.hid (And.intro hx hy)
      subst hAA hBB
      clear hx hy hxx hyy
      by_cases e : x = y
      · have HT2 := Lib.hid (take_eq_succ HX.out.1 HX.out.2 HT.out e)
        subst e
        go_wp2_with fail
        go_quiet (fail)
        go_wp2_with fail
        go_roundg (n - (k + 1))
        case measure => omega
        case rel => exact ⟨k + 1, by go_num, by omega, by omega, HT2, Lib.hid ⟨_, rfl⟩⟩
      · have HF : Hid (false = decide (xs = ys)) := Lib.hid (by
          symm
          simp only [decide_eq_false_iff_not]
          intro e2
          have h1 := HX.out.1
          rw [e2, HX.out.2] at h1
          injection h1 with h1
          exact e h1.symm)
        go_wp2_with fail
        go_quiet (fail)
        go_wp2_with fail
        go_ret
        exact ⟨ret_bool HF.out, ⟨rfl, rfl, rfl, Nat.le_refl _, fun _ _ => rfl⟩⟩
    · have hltz : ¬ (k : Int) < (n : Int) := by omega
      have HF : Hid (true = decide (xs = ys)) := Lib.hid (by
        symm
        simp only [decide_eq_true_eq]
        have h := HT.out
        rw [List.take_of_length_le (by rw [HN.out]; omega), List.take_of_length_le (by rw [HM.out]; omega)] at h
        exact h)
      go_wp2_with fail
      go_ret
      exact ⟨ret_bool HF.out, ⟨rfl, rfl, rfl, Nat.le_refl _, fun _ _ => rfl⟩⟩
theorem cellsInt : Try.prog.cellsOf 3 = 1 := by kernel_rfl
theorem eq_row3 (x0 x1 x2 y0 y1 y2 : Int) (W : World) : (Op.equalIn 10000 55 (.agg #[.int .i64 x0, .int .i64 x1, .int .i64 x2]) (.agg #[.int .i64 y0, .int .i64 y1, .int .i64 y2])).run Try.prog W = .ok (x0 == y0 && (x1 == y1 && x2 == y2)) W := by
  obtain ⟨i, hi, _⟩ := info_parts appInfoInt
  rw [run_equalIn_array W 9999 _ _ Try.underlying55 hi, cellsInt]
  have e : List.range 3 = [0, 1, 2] := rfl
  rw [e]
  simp only [Op.eqItems, Sem.run_bind]
  go_simp
  by_cases h0 : x0 = y0 <;> by_cases h1 : x1 = y1 <;> by_cases h2 : x2 = y2 <;> simp [h0, h1, h2]
set_option maxRecDepth 100000 in
set_option maxHeartbeats 4000000 in
theorem r8Same_any (A B : Option Addr) (n c m d : Nat) (xs ys : List R3) (w : World) (HA : Hid (Rd 3 enc3 w A xs)) (HB : Hid (Rd 3 enc3 w B ys)) (HN : Hid (xs.length = n)) (HM : Hid (ys.length = m)) (hn : n ≤ 1000000) :
    Calls Try.prog 19 #[.slice A n c, .slice B m d] w fun e w' => e = .returned (.bool (decide (xs = ys))) ∧ Below w.heap.size w w' := by
  go_enter Try.func19, Try.ntmps19
  by_cases hnm : n = m
  case neg =>
    have hz : ¬ (n : Int) = (m : Int) := by omega
    have HF : Hid (false = decide (xs = ys)) := Lib.hid (by
      symm
      simp only [decide_eq_false_iff_not]
      intro e
      apply hnm
      rw [← HN.out, ← HM.out, e])
    go_wp2_with fail
    go_ret
    exact ⟨ret_bool HF.out, Below.refl _ _⟩
  subst hnm
  go_wp2_with fail
  go_loopg [5] n (fun g1 v5 wr => ∃ k : Nat, v5 = .int .i64 k ∧ k ≤ n ∧ n - k ≤ g1 ∧ Hid (xs.take k = ys.take k) ∧ Hid (∃ q, wr = w.drewN q))
  case atStart => exact ⟨0, by go_num, by omega, by omega, Lib.hid rfl, Lib.hid ⟨0, rfl⟩⟩
  case round =>
    obtain ⟨k, rfl, hk, hg1, HT, HW⟩ := hrel
    obtain ⟨q, hq⟩ := HW.out
    subst wr
    by_cases hlt : k < n
    · have hltz : (k : Int) < (n : Int) := by omega
      obtain ⟨ba, oa, x, hAA, hba, hx, hca⟩ := HA.out.at_ (k := k) (by rw [HN.out]; exact hlt)
      obtain ⟨bb, ob, y, hBB, hbb, hy, hcb⟩ := HB.out.at_ (k := k) (by rw [HM.out]; exact hlt)
      obtain ⟨x0, x1, x2⟩ := x
      obtain ⟨y0, y1, y2⟩ := y
      have p0 : w.cell? ⟨ba, oa + k * 3, none⟩ = some (.int .i64 x0) := hca 0 _ rfl
      have p1 : w.cell? ⟨ba, oa + k * 3 + 1, none⟩ = some (.int .i64 x1) := hca 1 _ rfl
      have p2 : w.cell? ⟨ba, oa + k * 3 + 2, none⟩ = some (.int .i64 x2) := hca 2 _ rfl
      have r0 : w.cell? ⟨bb, ob + k * 3, none⟩ = some (.int .i64 y0) := hcb 0 _ rfl
      have r1 : w.cell? ⟨bb, ob + k * 3 + 1, none⟩ = some (.int .i64 y1) := hcb 1 _ rfl
      have r2 : w.cell? ⟨bb, ob + k * 3 + 2, none⟩ = some (.int .i64 y2) := hcb 2 _ rfl
      have HX := Lib.hid (And.intro hx hy)
      subst hAA hBB
      clear hx hy hca hcb
      go_wp2_with fail
      by_cases e : x0 = y0 ∧ x1 = y1 ∧ x2 = y2
      · have HT2 := Lib.hid (take_eq_succ HX.out.1 HX.out.2 HT.out (by obtain ⟨e0, e1, e2⟩ := e; rw [e0, e1, e2]))
        have hb : (x0 == y0 && (x1 == y1 && x2 == y2)) = true := by obtain ⟨e0, e1, e2⟩ := e; simp [e0, e1, e2]
        have hq0 := fun W => eq_row3 x0 x1 x2 y0 y1 y2 W
        rw [hb] at hq0
        clear hb e
        go_quiet (fail)
        go_wp2_with fail
        go_roundg (n - (k + 1))
        case measure => omega
        case rel => exact ⟨k + 1, by go_num, by omega, by omega, HT2, Lib.hid ⟨_, rfl⟩⟩
      · have HF : Hid (false = decide (xs = ys)) := Lib.hid (by
          symm
          simp only [decide_eq_false_iff_not]
          intro e2
          have h1 := HX.out.1
          rw [e2, HX.out.2] at h1
          injection h1 with h1
          injection h1 with h1 h2
          injection h2 with h2 h3
          exact e ⟨h1.symm, h2.symm, h3.symm⟩)
        have hb : (x0 == y0 && (x1 == y1 && x2 == y2)) = false := by
          rw [Bool.eq_false_iff]
          intro h
          simp only [Bool.and_eq_true, beq_iff_eq] at h
          exact e h
        have hq0 := fun W => eq_row3 x0 x1 x2 y0 y1 y2 W
        rw [hb] at hq0
        clear hb e
        go_quiet (fail)
        go_wp2_with fail
        go_ret
        exact ⟨ret_bool HF.out, ⟨rfl, rfl, rfl, Nat.le_refl _, fun _ _ => rfl⟩⟩
    · have hltz : ¬ (k : Int) < (n : Int) := by omega
      have HF : Hid (true = decide (xs = ys)) := Lib.hid (by
        symm
        simp only [decide_eq_true_eq]
        have h := HT.out
        rw [List.take_of_length_le (by rw [HN.out]; omega), List.take_of_length_le (by rw [HM.out]; omega)] at h
        exact h)
      go_wp2_with fail
      go_ret
      exact ⟨ret_bool HF.out, ⟨rfl, rfl, rfl, Nat.le_refl _, fun _ _ => rfl⟩⟩
end Go.Proofs.Ytjlfnhfiiailgaa
