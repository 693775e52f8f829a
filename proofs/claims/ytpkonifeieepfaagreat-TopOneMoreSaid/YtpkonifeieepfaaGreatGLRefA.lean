/-
Several texts in one: RefA, RefB.
-/
import Derived.Test.YtpkonifeieepfaaGreatGLTreeH
import Derived.Test.YtpkonifeieepfaaGreatGLSiteH
import Derived.ChangeKeysEq
/-
The reference: Few, Ints, On, Uses, Currents, Same.
-/
namespace Go.Proofs.YtpkonifeieepfaaGreat
open Go.RowKit
set_option linter.unusedVariables false
set_option linter.unusedSimpArgs false
def fewS (s : GSite) : Bool := decide (s.cons.length ≤ 40) && decide (s.owns.length ≤ 40) && decide (s.ctrs.length ≤ 40) && decide (s.chgs.length ≤ 40) && decide (s.bays.length ≤ 40)
set_option maxRecDepth 100000 in
set_option maxHeartbeats 4000000 in
theorem r4Few_any (a1 a2 a3 a4 a5 : Option Addr) (n1 c1 n2 c2 n3 c3 n4 c4 n5 c5 : Nat) (s : GSite) (w : World) (HS : Hid (RdSite w a1 a2 a3 a4 a5 n1 n2 n3 n4 n5 s)) :
    Calls Tryz.prog 13 #[.agg #[.slice a1 n1 c1, .slice a2 n2 c2, .slice a3 n3 c3, .slice a4 n4 c4, .slice a5 n5 c5]] w fun e w' => e = .returned (.bool (fewS s)) ∧ Below w.heap.size w w' := by
  have HF : Hid (fewS s = (decide (n1 ≤ 40) && decide (n2 ≤ 40) && decide (n3 ≤ 40) && decide (n4 ≤ 40) && decide (n5 ≤ 40))) := Lib.hid (by unfold fewS; rw [HS.out.l1, HS.out.l2, HS.out.l3, HS.out.l4, HS.out.l5])
  have HB : Hid (Below w.heap.size w (w.alloc (.cells #[.slice a1 n1 c1, .slice a2 n2 c2, .slice a3 n3 c3, .slice a4 n4 c4, .slice a5 n5 c5] 28))) := Lib.hid ((Below.refl _ w).alloc (Nat.le_refl _) _)
  go_enter Tryz.func13, Tryz.ntmps13
  by_cases h1 : n1 ≤ 40
  case neg =>
    go_wp2_with fail
    go_ret
    exact ⟨ret_bool (by rw [HF.out]; simp [h1]), HB.out⟩
  by_cases h2 : n2 ≤ 40
  case neg =>
    go_wp2_with fail
    go_ret
    exact ⟨ret_bool (by rw [HF.out]; simp [h1, h2]), HB.out⟩
  by_cases h3 : n3 ≤ 40
  case neg =>
    go_wp2_with fail
    go_ret
    exact ⟨ret_bool (by rw [HF.out]; simp [h1, h2, h3]), HB.out⟩
  by_cases h4 : n4 ≤ 40
  case neg =>
    go_wp2_with fail
    go_ret
    exact ⟨ret_bool (by rw [HF.out]; simp [h1, h2, h3, h4]), HB.out⟩
  by_cases h5 : n5 ≤ 40
  case neg =>
    go_wp2_with fail
    go_ret
    exact ⟨ret_bool (by rw [HF.out]; simp [h1, h2, h3, h4, h5] <;> omega), HB.out⟩
  go_wp2_with fail
  go_ret
  exact ⟨ret_bool (by rw [HF.out]; simp [h1, h2, h3, h4, h5] <;> omega), HB.out⟩
theorem take_eq_succ {α : Type} {xs ys : List α} {k : Nat} {x y : α} (hx : xs[k]? = some x) (hy : ys[k]? = some y) (h : xs.take k = ys.take k) (e : x = y) : xs.take (k + 1) = ys.take (k + 1) := by
  rw [take_snoc hx, take_snoc hy, h, e]
set_option maxRecDepth 100000 in
set_option maxHeartbeats 4000000 in
theorem r4Ints_any (A B : Option Addr) (n c m d : Nat) (xs ys : List Int) (w : World) (HA : Hid (Rd 1 encI w A xs)) (HB : Hid (Rd 1 encI w B ys)) (HN : Hid (xs.length = n)) (HM : Hid (ys.length = m)) (hn : n ≤ 9223372036854775806) :
    Calls Tryz.prog 12 #[.slice A n c, .slice B m d] w fun e w' => e = .returned (.bool (decide (xs = ys))) ∧ Below w.heap.size w w' := by
  go_enter Tryz.func12, Tryz.ntmps12
  by_cases hnm : n = m
  case neg =>
    have hz : ¬ (n : Int) = (m : Int) := by omega
    have HF : Hid (false = decide (xs = ys)) := Lib.hid (by
      symm
      simp only [decide_eq_false_iff_not]
      intro e
      apply hnm
      rw [← HN.out, ← HM.out, e])
    go_wp2_with fail
    go_ret
    exact ⟨ret_bool HF.out, Below.refl _ _⟩
  subst hnm
  go_wp2_with fail
  go_loopg [5] n (fun g1 v5 wr => ∃ k : Nat, v5 = .int .i64 k ∧ k ≤ n ∧ n - k ≤ g1 ∧ Hid (xs.take k = ys.take k) ∧ Hid (∃ q, wr = w.drewN q))
  case atStart => exact ⟨0, by go_num, by omega, by omega, Lib.hid rfl, Lib.hid ⟨0, rfl⟩⟩
  case round =>
    obtain ⟨k, rfl, hk, hg1, HT, HW⟩ := hrel
    obtain ⟨q, hq⟩ := HW.out
    subst wr
    by_cases hlt : k < n
    · have hltz : (k : Int) < (n : Int) := by omega
      have hx : xs[k]? = some (xs[k]'(by rw [HN.out]; exact hlt)) := List.getElem?_eq_getElem _
      have hy : ys[k]? = some (ys[k]'(by rw [HM.out]; exact hlt)) := List.getElem?_eq_getElem _
      obtain ⟨ba, oa, hAA, hba, hca⟩ := HA.out.int (k := k) (by rw [HN.out]; exact hlt)
      obtain ⟨bb, ob, hBB, hbb, hcb⟩ := HB.out.int (k := k) (by rw [HM.out]; exact hlt)
      generalize hxx : xs[k]'(by rw [HN.out]; exact hlt) = x at *
      generalize hyy : ys[k]'(by rw [HM.out]; exact hlt) = y at *
      rw [hx] at hca
      rw [hy] at hcb
      have hca : (w.drewN q).cell? ⟨ba, oa + k, none⟩ = some (.int .i64 x) := hca
      have hcb : (w.drewN q).cell? ⟨bb, ob + k, none⟩ = some (.int .i64 y) := hcb
      have HX := Lib.hid (And.intro hx hy)
      subst hAA hBB
      clear hx hy hxx hyy
      by_cases e : x = y
      · have HT2 := Lib.hid (take_eq_succ HX.out.1 HX.out.2 HT.out e)
        subst e
        go_wp2_with fail
        go_quiet (fail)
        go_wp2_with fail
        go_roundg (n - (k + 1))
        case measure => omega
        case rel => exact ⟨k + 1, by go_num, by omega, by omega, HT2, Lib.hid ⟨_, rfl⟩⟩
      · have HF : Hid (false = decide (xs = ys)) := Lib.hid (by
          symm
          simp only [decide_eq_false_iff_not]
          intro e2
          have h1 := HX.out.1
          rw [e2, HX.out.2] at h1
          injection h1 with h1
          exact e h1.symm)
        go_wp2_with fail
        go_quiet (fail)
        go_wp2_with fail
        go_ret
        exact ⟨ret_bool HF.out, ⟨rfl, rfl, rfl, Nat.le_refl _, fun _ _ => rfl⟩⟩
    · have hltz : ¬ (k : Int) < (n : Int) := by omega
      have HF : Hid (true = decide (xs = ys)) := Lib.hid (by
        symm
        simp only [decide_eq_true_eq]
        have h := HT.out
        rw [List.take_of_length_le (by rw [HN.out]; omega), List.take_of_length_le (by rw [HM.out]; omega)] at h
        exact h)
      go_wp2_with fail
      go_ret
      exact ⟨ret_bool HF.out, ⟨rfl, rfl, rfl, Nat.le_refl _, fun _ _ => rfl⟩⟩
theorem cellsInt : Tryz.prog.cellsOf 3 = 1 := by kernel_rfl
theorem eq_row3 (x0 x1 x2 y0 y1 y2 : Int) (W : World) : (Op.equalIn 10000 38 (.agg #[.int .i64 x0, .int .i64 x1, .int .i64 x2]) (.agg #[.int .i64 y0, .int .i64 y1, .int .i64 y2])).run Tryz.prog W = .ok (x0 == y0 && (x1 == y1 && x2 == y2)) W := by
  obtain ⟨i, hi, _⟩ := info_parts appInfoInt
  rw [run_equalIn_array W 9999 _ _ Tryz.underlying38 hi, cellsInt]
  have e : List.range 3 = [0, 1, 2] := rfl
  rw [e]
  simp only [Op.eqItems, Sem.run_bind]
  go_simp
  by_cases h0 : x0 = y0 <;> by_cases h1 : x1 = y1 <;> by_cases h2 : x2 = y2 <;> simp [h0, h1, h2]
end Go.Proofs.YtpkonifeieepfaaGreat
/-
The reference: On, Uses, Currents.
-/
namespace Go.Proofs.YtpkonifeieepfaaGreat
open Go.RowKit
set_option linter.unusedVariables false
set_option linter.unusedSimpArgs false
theorem bit_t0 {ph : Int} (hph : 0 ≤ ph ∧ ph ≤ 7) : (ph % 2 == 1) = bitP ph 0 := by
  have h : ∀ q : Fin 8, (((q.val : Nat) : Int) % 2 == 1) = bitP ((q.val : Nat) : Int) 0 := by decide +kernel
  have e := h ⟨ph.toNat, by omega⟩
  dsimp only at e
  rw [show ((ph.toNat : Nat) : Int) = ph by omega] at e
  exact e
theorem bit_t1 {ph : Int} (hph : 0 ≤ ph ∧ ph ≤ 7) : (ph / 2 % 2 == 1) = bitP ph 1 := by
  have h : ∀ q : Fin 8, (((q.val : Nat) : Int) / 2 % 2 == 1) = bitP ((q.val : Nat) : Int) 1 := by decide +kernel
  have e := h ⟨ph.toNat, by omega⟩
  dsimp only at e
  rw [show ((ph.toNat : Nat) : Int) = ph by omega] at e
  exact e
theorem bit_t2 {ph : Int} (hph : 0 ≤ ph ∧ ph ≤ 7) : (ph / 4 % 2 == 1) = bitP ph 2 := by
  have h : ∀ q : Fin 8, (((q.val : Nat) : Int) / 4 % 2 == 1) = bitP ((q.val : Nat) : Int) 2 := by decide +kernel
  have e := h ⟨ph.toNat, by omega⟩
  dsimp only at e
  rw [show ((ph.toNat : Nat) : Int) = ph by omega] at e
  exact e
theorem pthI_cons {cs : List GCon} (hu : OkUps cs) {k : Nat} (hk : k < cs.length) {g : GCon} (hg : cs[k]? = some g) : pthI cs k = (k : Int) :: (pth cs g.up).map (fun (k : Nat) => (k : Int)) := by
  unfold pthI
  rw [pth_one (c := 0) hu hk hg]
  rfl
set_option maxRecDepth 100000 in
set_option maxHeartbeats 4000000 in
theorem r8Currents_any (a1 a2 a3 a4 a5 : Option Addr) (n1 c1 n2 c2 n3 c3 n4 c4 n5 c5 : Nat) (aA : Option Addr) (nA cA : Nat) (s : GSite) (xs : List Int) (w : World) (HS : Hid (RdSite w a1 a2 a3 a4 a5 n1 n2 n3 n4 n5 s)) (HX : Hid (Rd 1 encI w aA xs)) (HNA : Hid (xs.length = nA)) (hnA : nA ≤ 9223372036854775807) :
    Calls Tryz.prog 15 #[.agg #[.slice a1 n1 c1, .slice a2 n2 c2, .slice a3 n3 c3, .slice a4 n4 c4, .slice a5 n5 c5], .slice aA nA cA] w fun e w' => e = .returned (.bool (curB s xs)) ∧ Below w.heap.size w w' := by
  obtain ⟨m1, m2, m3, m4, m5⟩ : n1 ≤ 9223372036854775807 ∧ n2 ≤ 9223372036854775807 ∧ n3 ≤ 9223372036854775807 ∧ n4 ≤ 9223372036854775807 ∧ n5 ≤ 9223372036854775807 := ⟨HS.out.m1, HS.out.m2, HS.out.m3, HS.out.m4, HS.out.m5⟩
  obtain ⟨W0, hW0⟩ : ∃ W0, W0 = w.alloc (.cells #[.slice a1 n1 c1, .slice a2 n2 c2, .slice a3 n3 c3, .slice a4 n4 c4, .slice a5 n5 c5] 28) := ⟨_, rfl⟩
  have b0 : Below w.heap.size w W0 := by rw [hW0]; exact (Below.refl _ w).alloc (Nat.le_refl _) _
  have q3 : W0.cell? ⟨w.heap.size, 3, none⟩ = some (.slice a4 n4 c4) := by rw [hW0]; go_simp
  have HR := Lib.hid (HX.out.keep b0)
  have HB := Lib.hid b0
  have HW0 := Lib.hid hW0
  clear b0 hW0
  go_enter Tryz.func15, Tryz.ntmps15
  go_wp2_with fail
  rw [← HW0.out]
  go_loopg [5] nA (fun g1 v5 wr => ∃ k : Nat, v5 = .int .i64 k ∧ k ≤ nA ∧ nA - k ≤ g1 ∧ Hid (∀ i, i < k → 0 ≤ fI xs i ∧ fI xs i ≤ 80) ∧ W0 = wr)
  case atStart => exact ⟨0, by go_num, by omega, by omega, Lib.hid (fun i hi => absurd hi (by omega)), rfl⟩
  case round =>
    obtain ⟨k, rfl, hk, hg1, HA, rfl⟩ := hrel
    by_cases hlt : k < nA
    · have hltz : (k : Int) < (nA : Int) := by omega
      obtain ⟨ba, oa, hAA, hba, hax⟩ := HR.out.int (k := k) (by rw [HNA.out]; exact hlt)
      have hx1 : W0.cell? ⟨ba, oa + k, none⟩ = some (.int .i64 (fI xs k)) := hax
      have HXK : Hid (¬ (0 ≤ fI xs k ∧ fI xs k ≤ 80) → false = curB s xs) := Lib.hid (fun h => (curB_no2 (by rw [HNA.out]; exact hlt) h).symm)
      have HX2 : Hid (0 ≤ fI xs k ∧ fI xs k ≤ 80 → ∀ i, i < k + 1 → 0 ≤ fI xs i ∧ fI xs i ≤ 80) := Lib.hid (fun h i hi => by
        rcases Nat.lt_succ_iff_lt_or_eq.1 hi with h1 | h1
        · exact HA.out i h1
        · rw [h1]; exact h)
      subst hAA
      clear hax HA
      generalize fI xs k = x at *
      by_cases h0 : x < 0
      · have HN := Lib.hid (HXK.out (by omega))
        clear HXK HX2
        go_wp2_with fail
        go_ret
        exact ⟨ret_bool HN.out, HB.out⟩
      · by_cases h1 : 80 < x
        · have HN := Lib.hid (HXK.out (by omega))
          clear HXK HX2
          go_wp2_with fail
          go_ret
          exact ⟨ret_bool HN.out, HB.out⟩
        · have HA2 := Lib.hid (HX2.out (by omega))
          clear HXK HX2
          go_wp2_with fail
          go_roundg (nA - (k + 1))
          case measure => omega
          case rel => exact ⟨k + 1, by go_num, by omega, by omega, HA2, rfl⟩
    · have hltz : ¬ (k : Int) < (nA : Int) := by omega
      have hkn : k = nA := by omega
      subst hkn
      by_cases hl : k = n4
      · have HT : Hid (true = curB s xs) := Lib.hid (by
          symm
          exact curB_iff.2 ⟨by rw [HNA.out, HS.out.l4]; exact hl, fun i hi => HA.out i (by rw [HNA.out] at hi; exact hi)⟩)
        subst hl
        go_wp2_with fail
        go_ret
        exact ⟨ret_bool HT.out, HB.out⟩
      · have HF : Hid (false = curB s xs) := Lib.hid (curB_no1 (by rw [HNA.out, HS.out.l4]; exact hl)).symm
        have hlz : ((k : Int) == (n4 : Int)) = false := by
          rw [beq_eq_false_iff_ne]
          omega
        go_wp2_with fail
        go_ret
        exact ⟨ret_bool HF.out, HB.out⟩
end Go.Proofs.YtpkonifeieepfaaGreat
