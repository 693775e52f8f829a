/-
LimitsFirst, walked.
-/
import Derived.Test.YtmplageajlhpbaaCLimN
import Derived.Test.YtmplageajlhpbaaCLimO
namespace Go.Proofs.Ytmplageajlhpbaa
open Go.RowKit
set_option linter.unusedVariables false
set_option linter.unusedSimpArgs false
/-- The box of a violation. -/
def VBox (W : World) (b : Nat) (v0 v1 v2 : Int) : Prop := W.cell? ⟨b, 0, none⟩ = some (.int .i64 v0) ∧ W.cell? ⟨b, 1, none⟩ = some (.int .i64 v1) ∧ W.cell? ⟨b, 2, none⟩ = some (.int .i64 v2)
theorem VBox.keep {W W' : World} {b : Nat} {v0 v1 v2 : Int} (h : VBox W b v0 v1 v2) (hb : Below W.heap.size W W') : VBox W' b v0 v1 v2 :=
  have l := World.block_lt_of_cell? W _ h.1
  ⟨(hb.cell (p := ⟨b, 0, none⟩) l).trans h.1, (hb.cell (p := ⟨b, 1, none⟩) l).trans h.2.1, (hb.cell (p := ⟨b, 2, none⟩) l).trans h.2.2⟩
theorem VBox.new (W : World) (t : TypeId) (v0 v1 v2 : Int) : VBox (W.alloc (.cells #[.int .i64 v0, .int .i64 v1, .int .i64 v2] t)) W.heap.size v0 v1 v2 := ⟨by go_simp, by go_simp, by go_simp⟩
set_option maxRecDepth 100000 in
set_option maxHeartbeats 8000000 in
theorem walk_LimitsFirst (a1 : Option Addr) (n1 c1 : Nat) (a2 : Option Addr) (n2 c2 : Nat) (a3 : Option Addr) (n3 c3 : Nat) (a4 : Option Addr) (n4 c4 : Nat) (a5 : Option Addr) (n5 c5 : Nat) (s : GSite) {w : World} (HS : Hid (RdSite w a1 a2 a3 a4 a5 n1 n2 n3 n4 n5 s)) (_ : WfSite s) (aA : Option Addr) (cA nA : Nat) (xs : List Int) (hX : Rd 1 encI w aA xs) (HNA : Hid (xs.length = nA)) (hnA : nA ≤ 9223372036854775807) (_ : ∀ x, x ∈ xs → wfI64 x) :
    Calls Try.prog 6 #[.agg #[.slice a1 n1 c1, .slice a2 n2 c2, .slice a3 n3 c3, .slice a4 n4 c4, .slice a5 n5 c5], .slice aA nA cA] w fun e w' => e = .returned (.bool true) ∧ Below w.heap.size w w' := by
  have HX := Lib.hid hX
  have HM0 := Lib.hid (LwM.box (c1 := c1) (c2 := c2) (c3 := c3) (c4 := c4) (c5 := c5) HS.out)
  clear hX
  go_enter Try.func6, Try.ntmps6
  go_wp2_with fail
  refine (lhHead_any _).mono ?_
  rintro e w1 ⟨rfl, hb⟩
  have HM := Lib.hid (HM0.out.keep hb)
  generalize hXX : w.heap.size = X at HM ⊢
  have hlX : X < w1.heap.size := World.block_lt_of_cell? w1 _ HM.out.k0
  have HSZ := Lib.hid hXX
  clear hb HM0 hXX
  obtain ⟨k0, k1, k2, k3, k4⟩ : w1.cell? ⟨X, 0, none⟩ = some (.slice a1 n1 c1) ∧ w1.cell? ⟨X, 1, none⟩ = some (.slice a2 n2 c2) ∧ w1.cell? ⟨X, 2, none⟩ = some (.slice a3 n3 c3) ∧ w1.cell? ⟨X, 3, none⟩ = some (.slice a4 n4 c4) ∧ w1.cell? ⟨X, 4, none⟩ = some (.slice a5 n5 c5) := ⟨HM.out.k0, HM.out.k1, HM.out.k2, HM.out.k3, HM.out.k4⟩
  go_wp2_with fail
  refine (lhValid_any a1 a2 a3 a4 a5 n1 c1 n2 c2 n3 c3 n4 c4 n5 c5 aA nA cA s xs w1 (Lib.hid HM.out.rs) (Lib.hid (HX.out.keep HM.out.bel)) HNA hnA).mono ?_
  rintro e w2 ⟨rfl, hb⟩
  have HM := Lib.hid (HM.out.keep hb)
  have hlX : X < w2.heap.size := World.block_lt_of_cell? w2 _ HM.out.k0
  clear hb k0 k1 k2 k3 k4
  obtain ⟨k0, k1, k2, k3, k4⟩ : w2.cell? ⟨X, 0, none⟩ = some (.slice a1 n1 c1) ∧ w2.cell? ⟨X, 1, none⟩ = some (.slice a2 n2 c2) ∧ w2.cell? ⟨X, 2, none⟩ = some (.slice a3 n3 c3) ∧ w2.cell? ⟨X, 3, none⟩ = some (.slice a4 n4 c4) ∧ w2.cell? ⟨X, 4, none⟩ = some (.slice a5 n5 c5) := ⟨HM.out.k0, HM.out.k1, HM.out.k2, HM.out.k3, HM.out.k4⟩
  cases hv : lhB s xs
  · go_wp2_with fail
    go_ret
    exact ⟨rfl, HM.out.bel⟩
  have HLB := Lib.hid (lhB_load hv)
  clear hv
  go_wp2_with fail
  refine (limCheck_any a1 a2 a3 a4 a5 n1 c1 n2 c2 n3 c3 n4 c4 n5 c5 aA nA cA s xs w2 (Lib.hid HM.out.rs) (Lib.hid (HX.out.keep HM.out.bel)) HNA hnA).mono ?_
  rintro e w3 ⟨rfl, hb⟩
  have HM := Lib.hid (HM.out.keep hb)
  clear hb k0 k1 k2 k3 k4
  obtain ⟨v0, v1, v2, hv⟩ := vio_agg s xs
  rw [hv, HLB.out, errT]
  have HV := Lib.hid hv
  generalize hq : (vioO s xs).isSome = q
  have HQ := Lib.hid hq
  have hok : okSB keyL s = true := by
    cases h : okSB keyL s
    · have := HLB.out; rw [loadB_no1 h] at this; cases this
    · rfl
  have HOKB := Lib.hid hok
  have hcl : s.cons.length = n1 := HS.out.l1
  have hn16 : n1 ≤ 16 := by have := (okSB_iff.1 hok).n2; omega
  have HCL := Lib.hid hcl
  clear hq hv hok hcl
  go_wp2_with fail
  obtain ⟨W3, hW3⟩ : ∃ W3, W3 = w3.alloc (.cells #[.int .i64 v0, .int .i64 v1, .int .i64 v2] 39) := ⟨_, rfl⟩
  have HVB : Hid (VBox W3 w3.heap.size v0 v1 v2) := Lib.hid (by rw [hW3]; exact VBox.new _ _ _ _ _)
  have HM3 := Lib.hid (HM.out.keep (show Below w3.heap.size w3 W3 by rw [hW3]; exact (Below.refl _ w3).alloc (Nat.le_refl _) _))
  rw [← hW3]
  clear hW3 HM
  generalize w3.heap.size = V at *
  go_loopg [5, 10] n1 (fun g1 v5 v10 wr => ∃ c : Nat, v10 = .int .i64 c ∧ c ≤ n1 ∧ n1 - c ≤ g1 ∧ v5 = .bool true ∧ Hid (∀ t, t < c * 3 → chkL s xs t = false) ∧ Hid (LwM w wr X a1 n1 c1 a2 n2 c2 a3 n3 c3 a4 n4 c4 a5 n5 c5 s) ∧ Hid (VBox wr V v0 v1 v2))
  case atStart => exact ⟨0, by go_num, by omega, by omega, rfl, Lib.hid (fun t ht => by omega), HM3, HVB⟩
  case round =>
    obtain ⟨c, rfl, hc, hg1, rfl, HA, HM, HVB⟩ := hrel
    clear HM3
    have hlX : X < wr.heap.size := World.block_lt_of_cell? wr _ HM.out.k0
    obtain ⟨k0, k1, k2, k3, k4⟩ : wr.cell? ⟨X, 0, none⟩ = some (.slice a1 n1 c1) ∧ wr.cell? ⟨X, 1, none⟩ = some (.slice a2 n2 c2) ∧ wr.cell? ⟨X, 2, none⟩ = some (.slice a3 n3 c3) ∧ wr.cell? ⟨X, 3, none⟩ = some (.slice a4 n4 c4) ∧ wr.cell? ⟨X, 4, none⟩ = some (.slice a5 n5 c5) := ⟨HM.out.k0, HM.out.k1, HM.out.k2, HM.out.k3, HM.out.k4⟩
    by_cases hlt : c < n1
    · have hltz : (c : Int) < (n1 : Int) := by omega
      have HCO : Hid (okCo s (c : Int) = true) := Lib.hid (okCo_yes HOKB.out ⟨by omega, by have := HCL.out; omega⟩)
      go_wp2_with fail
      refine (limLimit_any a1 a2 a3 a4 a5 n1 c1 n2 c2 n3 c3 n4 c4 n5 c5 s (c : Int) wr (Lib.hid HM.out.rs)).mono ?_
      rintro e w4 ⟨rfl, hb⟩
      rw [limO_yes HCO.out, HCO.out, errT, Int.toNat_natCast]
      have HM := Lib.hid (HM.out.keep hb)
      have HVB := Lib.hid (HVB.out.keep hb)
      have hlX : X < w4.heap.size := World.block_lt_of_cell? w4 _ HM.out.k0
      clear hb k0 k1 k2 k3 k4
      obtain ⟨k0, k1, k2, k3, k4⟩ : w4.cell? ⟨X, 0, none⟩ = some (.slice a1 n1 c1) ∧ w4.cell? ⟨X, 1, none⟩ = some (.slice a2 n2 c2) ∧ w4.cell? ⟨X, 2, none⟩ = some (.slice a3 n3 c3) ∧ w4.cell? ⟨X, 3, none⟩ = some (.slice a4 n4 c4) ∧ w4.cell? ⟨X, 4, none⟩ = some (.slice a5 n5 c5) := ⟨HM.out.k0, HM.out.k1, HM.out.k2, HM.out.k3, HM.out.k4⟩
      go_wp2_with fail
      refine (lhLoads_any a1 a2 a3 a4 a5 n1 c1 n2 c2 n3 c3 n4 c4 n5 c5 aA nA cA s xs (c : Int) w4 (Lib.hid HM.out.rs) (Lib.hid (HX.out.keep HM.out.bel)) HNA hnA).mono ?_
      rintro e w5 ⟨rfl, hb⟩
      have HLE : Hid (∀ p, lodF s xs (c : Int) p = loadS s (fI xs) s.chgs.length (c * 3 + p)) := Lib.hid (fun p => by unfold lodF; rw [if_pos ⟨HLB.out, by omega, by rw [HCL.out]; omega⟩, Int.toNat_natCast])
      have HM := Lib.hid (HM.out.keep hb)
      have HVB := Lib.hid (HVB.out.keep hb)
      clear hb k0 k1 k2 k3 k4
      go_wp2_with fail
      obtain ⟨W5, hW5⟩ : ∃ W5, W5 = w5.alloc (.cells #[.int .i64 (lodF s xs (c : Int) 0), .int .i64 (lodF s xs (c : Int) 1), .int .i64 (lodF s xs (c : Int) 2)] 50) := ⟨_, rfl⟩
      have b5 : Below w5.heap.size w5 W5 := by rw [hW5]; exact (Below.refl _ w5).alloc (Nat.le_refl _) _
      have HLB5 : Hid (VBox W5 w5.heap.size (lodF s xs (c : Int) 0) (lodF s xs (c : Int) 1) (lodF s xs (c : Int) 2)) := Lib.hid (by rw [hW5]; exact VBox.new _ _ _ _ _)
      have HM5 := Lib.hid (HM.out.keep b5)
      have HVB5 := Lib.hid (HVB.out.keep b5)
      rw [← hW5]
      clear hW5 b5 HM HVB
      generalize w5.heap.size = L at *
      obtain ⟨most, hmost⟩ : ∃ m, m = limAt s c := ⟨_, rfl⟩
      rw [← hmost]
      have HMO := Lib.hid hmost
      clear hmost
      go_loopg [14] 3 (fun g2 v14 wq => ∃ p : Nat, v14 = .int .i64 p ∧ p ≤ 3 ∧ 3 - p ≤ g2 ∧ Hid (∀ i, i < p → chkL s xs (c * 3 + i) = false) ∧ W5 = wq)
      case atStart => exact ⟨0, by go_num, by omega, by omega, Lib.hid (fun i hi => by omega), rfl⟩
      case round =>
        obtain ⟨p, rfl, hp, hg2, HA2, rfl⟩ := hrel
        by_cases hlp : p < 3
        · have hlpz : (p : Int) < 3 := by omega
          have hld : W5.cell? ⟨L, p, none⟩ = some (.int .i64 (lodF s xs (c : Int) p)) := by
            obtain ⟨h0, h1, h2⟩ := HLB5.out
            match p, hlp with
            | 0, _ => exact h0
            | 1, _ => exact h1
            | 2, _ => exact h2
          have HCK : Hid (chkL s xs (c * 3 + p) = decide (most < lodF s xs (c : Int) p)) := Lib.hid (by
            unfold chkL
            rw [HLE.out, HMO.out, show (c * 3 + p) / 3 = c by omega])
          obtain ⟨ld, hlde⟩ : ∃ ld, ld = lodF s xs (c : Int) p := ⟨_, rfl⟩
          rw [← hlde] at hld HCK
          have HLD := Lib.hid hlde
          clear hlde
          by_cases hgt : most < ld
          · have HSO : Hid (vioO s xs = some (c * 3 + p)) := Lib.hid (vioO_at HLB.out (by rw [HCL.out]; omega) (fun i hi => by
              rcases Nat.lt_or_ge i (c * 3) with h | h
              · exact HA.out i h
              · have h2 := HA2.out (i - c * 3) (by omega)
                rw [show c * 3 + (i - c * 3) = i by omega] at h2
                exact h2) (by rw [HCK.out]; exact decide_eq_true hgt))
            have HVV : Hid (v0 = (c : Int) ∧ v1 = (p : Int) ∧ v2 = ld) := Lib.hid (by
              have h := HV.out
              rw [HSO.out] at h
              unfold vioV at h
              injection h with h
              have h1 : [Value.int .i64 (((c * 3 + p) / 3 : Nat) : Int), .int .i64 (((c * 3 + p) % 3 : Nat) : Int), .int .i64 (loadS s (fI xs) s.chgs.length (c * 3 + p))] = [Value.int .i64 v0, .int .i64 v1, .int .i64 v2] := by injection h
              simp only [List.cons.injEq, Value.int.injEq, true_and, and_true] at h1
              obtain ⟨e0, e1, e2⟩ := h1
              rw [show (c * 3 + p) / 3 = c by omega] at e0
              rw [show (c * 3 + p) % 3 = p by omega] at e1
              exact ⟨e0.symm, e1.symm, by rw [← e2, HLD.out, HLE.out]⟩)
            have hqt : q = true := by rw [← HQ.out, HSO.out]; rfl
            have x0 := HVB5.out.1
            have x1 := HVB5.out.2.1
            have x2 := HVB5.out.2.2
            rw [HVV.out.1] at x0
            rw [HVV.out.2.1] at x1
            rw [HVV.out.2.2] at x2
            subst hqt
            go_wp2_with fail
            go_quiet (fail)
            go_wp2_with fail
            go_ret
            exact ⟨rfl, below_drewG _ HM5.out.bel⟩
          · have HNX : Hid (∀ i, i < p + 1 → chkL s xs (c * 3 + i) = false) := Lib.hid (fun i hi => by
              rcases Nat.lt_succ_iff_lt_or_eq.1 hi with h | h
              · exact HA2.out i h
              · rw [h, HCK.out]; exact decide_eq_false hgt)
            go_wp2_with fail
            go_roundg (3 - (p + 1))
            case measure => omega
            case rel => exact ⟨p + 1, by go_num, by omega, by omega, HNX, rfl⟩
        · have hlpz : ¬ (p : Int) < 3 := by omega
          have hp3 : p = 3 := by omega
          subst hp3
          have HNX : Hid (∀ t, t < (c + 1) * 3 → chkL s xs t = false) := Lib.hid (fun t ht => by
            rcases Nat.lt_or_ge t (c * 3) with h | h
            · exact HA.out t h
            · have h2 := HA2.out (t - c * 3) (by omega)
              rw [show c * 3 + (t - c * 3) = t by omega] at h2
              exact h2)
          go_wp2_with fail
          go_roundg (n1 - (c + 1))
          case measure => omega
          case rel => exact ⟨c + 1, by go_num, by omega, by omega, rfl, HNX, HM5, HVB5⟩
    · have hltz : ¬ (c : Int) < (n1 : Int) := by omega
      have hcn : c = n1 := by omega
      have HSO : Hid (vioO s xs = none) := Lib.hid (vioO_all HLB.out (fun t ht => HA.out t (by rw [HCL.out] at ht; omega)))
      have HVV : Hid (v0 = 0 ∧ v1 = 0 ∧ v2 = 0) := Lib.hid (by
        have h := HV.out
        rw [HSO.out] at h
        unfold vioV at h
        injection h with h
        have h1 : [Value.int .i64 0, .int .i64 0, .int .i64 0] = [Value.int .i64 v0, .int .i64 v1, .int .i64 v2] := by injection h
        simp only [List.cons.injEq, Value.int.injEq, true_and, and_true] at h1
        exact ⟨h1.1.symm, h1.2.1.symm, h1.2.2.symm⟩)
      have hqt : q = false := by rw [← HQ.out, HSO.out]; rfl
      have x0 := HVB.out.1
      have x1 := HVB.out.2.1
      have x2 := HVB.out.2.2
      rw [HVV.out.1] at x0
      rw [HVV.out.2.1] at x1
      rw [HVV.out.2.2] at x2
      subst hqt
      clear hcn
      go_wp2_with fail
      go_ret
      exact ⟨rfl, HM.out.bel⟩
end Go.Proofs.Ytmplageajlhpbaa
