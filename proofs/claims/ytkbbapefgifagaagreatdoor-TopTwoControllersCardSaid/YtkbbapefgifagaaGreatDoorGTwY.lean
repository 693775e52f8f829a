/-
Several texts in one: TwY0, TwY1.
-/
import Derived.Test.YtkbbapefgifagaaGreatDoorCTwX5
import Derived.Test.YtkbbapefgifagaaGreatDoorGLSortP
/-
Two controllers: slices.SortStableFunc at []int with the comparison of control.Order.
-/
namespace Go.Proofs.YtkbbapefgifagaaGreatDoor
open Go.RowKit
set_option linter.unusedVariables false
set_option linter.unusedSimpArgs false
/-- The comparison: it answers by the keys, whatever the sort has done to block g. -/
def CmpO (key : Int → Int) (D : Int → Prop) (v1 v2 : Value) (g : Nat) (w0 : World) : Prop := ∀ W, Mod (fun k => k = g) w0 W → ∀ x y, D x → D y →
  Calls Tryz.prog 58 #[.int .i64 x, .int .i64 y, v1, v2] W fun e w' => e = .returned (.int .i64 (cmpV (key y) (key x))) ∧ Below W.heap.size W w'
set_option maxRecDepth 100000 in
set_option maxHeartbeats 4000000 in
theorem sInsertO_any (key : Int → Int) (D : Int → Prop) (v1 v2 : Value) (g n cap a b : Nat) (A B : Int) (f : Nat → Int) (w0 w : World) (eA : A = a) (eB : B = b) (HC0 : CmpO key D v1 v2 g w0) (S0 : SortP w0 g n f w) (hab : a ≤ b) (hb : b ≤ n) (hn : n ≤ 1000000)
    (hD0 : ∀ k, k < n → D (f k)) (hasc0 : Asc f a b) :
    Calls Tryz.prog 96 #[.slice (some ⟨g, 0, none⟩) n cap, .int .i64 A, .int .i64 B, .func (.func 58) #[] #[v1, v2]] w (SortPostP key a b f w0 g n) := by
  subst eA eB
  have HC := Lib.hid HC0
  have S := Lib.hid S0
  have hD := Lib.hid hD0
  have hasc := Lib.hid hasc0
  clear HC0 S0 hD0 hasc0
  go_enter Tryz.func96, Tryz.ntmps96
  go_wp2
  go_loopg [8] (b - a) (fun g1 vi wr => ∃ (i : Nat) (f1 : Nat → Int), vi = .int .i64 i ∧ a < i ∧ i ≤ b + 1 ∧ b + 1 - i ≤ g1 + 1 ∧ Hid (Sorts key a (min i b) f f1) ∧ Hid (SortP w0 g n f1 wr))
  case atStart => exact ⟨a + 1, f, by go_num, by omega, by omega, by omega, Lib.hid (Sorts.small (by omega)), S⟩
  case round =>
    clear S
    obtain ⟨i, f1, rfl, hai, hib, hg1, HS, S1⟩ := hrel
    by_cases hlt : i < b
    · have hltz : (i : Int) < (b : Int) := by omega
      go_wp2
      go_loopg [9] i (fun g2 vj wr2 => ∃ (j : Nat) (f2 : Nat → Int), vj = .int .i64 j ∧ a ≤ j ∧ j ≤ i ∧ j ≤ g2 ∧ Hid (InsIn key a i j f f2) ∧ Hid (SortP w0 g n f2 wr2))
      case atStart =>
        have HS' := HS.out
        rw [show min i b = i from by omega] at HS'
        exact ⟨i, f1, rfl, by omega, Nat.le_refl _, Nat.le_refl _, Lib.hid (InsIn.start (by omega) HS' (fun p h1 h2 => hasc.out p i h1 h2 hlt)), S1⟩
      case round =>
        clear S1 HS
        obtain ⟨j, f2, rfl, haj, hji, hg2, HI, SJ⟩ := hrel
        by_cases hja : j = a
        · subst hja
          have hjad : ¬ (j : Int) < (j : Int) := by omega
          have HS := Lib.hid (HI.out.stop haj hji (Or.inl rfl))
          go_wp2_with fail
          have hgd : decide ((j : Int) < (j : Int)) = false := by simp
          go_quiet (fail)
          have S2 := Lib.hid (SJ.out.drewN nq)
          clear SJ HI
          generalize wr.drewN nq = w2 at S2 ⊢
          clear nq
          go_wp2
          go_roundg (b - (i + 1))
          case measure => omega
          case rel => exact ⟨i + 1, f2, by go_num, by omega, by omega, by omega, Lib.hid (by rw [show min (i + 1) b = i + 1 from by omega]; exact HS.out), S2⟩
        · obtain ⟨jp, rfl⟩ : ∃ q, j = q + 1 := ⟨j - 1, by omega⟩
          by_cases hk : key (f2 jp) < key (f2 (jp + 1))
          · have hv : decide (cmpV (key (f2 jp)) (key (f2 (jp + 1))) < 0) = true := by simpa using cmpV_neg hk
            have HK := Lib.hid hk
            clear hk
            have hjad : (a : Int) < (jp : Int) + 1 := by omega
            have pa : (0 : Int) ≤ (jp : Int) + 1 := by omega
            have ba : (jp : Int) + 1 < (n : Int) := by omega
            have ra : IntKind.i64.wrap ((jp : Int) + 1) = (jp : Int) + 1 := by rw [IntKind.wrap_i64]; omega
            have pc1 : (0 : Int) ≤ (jp : Int) := by omega
            have bc1 : (jp : Int) < (n : Int) := by omega
            have rc : IntKind.i64.wrap (jp : Int) = (jp : Int) := by rw [IntKind.wrap_i64]; omega
            have la := SJ.out.own.cell (i := jp + 1) (by omega)
            have lb := SJ.out.own.cell (i := jp) (by omega)
            have lg : g < wr.heap.size := SJ.out.own.lt
            have hDj : ∀ k, k < n → D (f2 k) := HI.out.all (by omega) hD.out
            have HCM : Hid (∀ W, Below wr.heap.size wr W → Calls Tryz.prog 58 #[.int .i64 (f2 (jp + 1)), .int .i64 (f2 jp), v1, v2] W fun e w' => e = .returned (.int .i64 (cmpV (key (f2 jp)) (key (f2 (jp + 1))))) ∧ Below W.heap.size W w') := Lib.hid (fun W hW => HC.out W (SJ.out.mod.trans (Mod.of_below hW |>.mono (fun k h1 h2 => by omega))) _ _ (hDj (jp + 1) (by omega)) (hDj jp (by omega)))
            clear hDj
            go_upto_region 4 with (fail)
            refine region_z (S := fun w' => Below wr.heap.size wr w') [] (by kernel_rfl) (Below.refl _ _).drew (fun hHeld => ?_)
            refine zt (i := 0) (v := .int .i64 ((jp : Int) + 1)) [] (fun w' hSw => ?_) hHeld ?_
            · clear hHeld
              go_simp
            simp only [Act.put, zl3, zl4, zl5]
            refine zt (i := 1) (v := .int .i64 (a : Int)) [] (fun w' hSw => ?_) hHeld ?_
            · clear hHeld
              go_simp
            simp only [Act.put, zl3, zl4, zl5]
            refine zt (i := 2) (v := .bool true) [] (fun w' hSw => ?_) hHeld ?_
            · clear hHeld
              go_simp
              first | done | omega | (simp; omega)
            simp only [Act.put, zl3, zl4, zl5]
            refine zt (i := 3) (v := .bool true) [] (fun w' hSw => ?_) hHeld ?_
            · clear hHeld
              go_simp
            simp only [Act.put, zl3, zl4, zl5]
            refine zt (i := 4) (v := .func (.func 58) #[] #[v1, v2]) [] (fun w' hSw => ?_) hHeld ?_
            · clear hHeld
              go_simp
            simp only [Act.put, zl3, zl4, zl5]
            refine zt (i := 5) (v := .slice (some ⟨g, 0, none⟩) n cap) [] (fun w' hSw => ?_) hHeld ?_
            · clear hHeld
              go_simp
            simp only [Act.put, zl3, zl4, zl5]
            refine zt (i := 6) (v := .int .i64 ((jp : Int) + 1)) [] (fun w' hSw => ?_) hHeld ?_
            · clear hHeld
              go_simp
            simp only [Act.put, zl3, zl4, zl5]
            refine zt (i := 7) (v := .pointer (some ⟨g, jp + 1, none⟩)) [] (fun w' hSw => ?_) hHeld ?_
            · clear hHeld
              go_simp
            simp only [Act.put, zl3, zl4, zl5]
            refine zt (i := 8) (v := .int .i64 (f2 (jp + 1))) [] (fun w' hSw => ?_) hHeld ?_
            · clear hHeld
              have s0 := (hSw.cell (p := ⟨g, jp + 1, none⟩) lg).trans la
              go_simp
            simp only [Act.put, zl3, zl4, zl5]
            refine zt (i := 9) (v := .slice (some ⟨g, 0, none⟩) n cap) [] (fun w' hSw => ?_) hHeld ?_
            · clear hHeld
              go_simp
            simp only [Act.put, zl3, zl4, zl5]
            refine zt (i := 10) (v := .int .i64 ((jp : Int) + 1)) [] (fun w' hSw => ?_) hHeld ?_
            · clear hHeld
              go_simp
            simp only [Act.put, zl3, zl4, zl5]
            refine zt (i := 11) (v := .int .i64 (jp : Int)) [] (fun w' hSw => ?_) hHeld ?_
            · clear hHeld
              go_simp
            simp only [Act.put, zl3, zl4, zl5]
            refine zt (i := 12) (v := .pointer (some ⟨g, jp, none⟩)) [] (fun w' hSw => ?_) hHeld ?_
            · clear hHeld
              go_simp
            simp only [Act.put, zl3, zl4, zl5]
            refine zt (i := 13) (v := .int .i64 (f2 jp)) [] (fun w' hSw => ?_) hHeld ?_
            · clear hHeld
              have s0 := (hSw.cell (p := ⟨g, jp, none⟩) lg).trans lb
              go_simp
            simp only [Act.put, zl3, zl4, zl5]
            refine zo 14 (fun K' hK => ?_)
            rw [if_pos (by kernel_rfl)]
            go_simp
            refine (HCM.out _ hHeld).mono ?_
            rintro e y1 ⟨rfl, hb⟩
            refine hK.out _ _ ?_ (fun hHeld' => ?_)
            · exact below_then hHeld hb
            clear hK K' hb hHeld
            have hHeld := hHeld'
            clear hHeld'
            try simp only [Act.put, zl3, zl4, zl5]
            refine zt (i := 15) (v := .bool true) [] (fun w' hSw => ?_) hHeld ?_
            · clear hHeld
              go_simp
              first | done | exact hv | simpa using hv | (simp only [hv]; done)
            simp only [Act.put, zl3, zl4, zl5]
            refine zo 16 (fun K' hK => ?_)
            go_simp
            refine hK.out _ _ ?_ (fun hHeld => ?_)
            · exact hHeld
            clear hK K'
            try simp only [Act.put, zl3, zl4, zl5]
            refine wpAnyZ_done (by kernel_rfl) ?_ _
            have S2 := Lib.hid (SJ.out.below hHeld)
            clear hHeld la lb HCM SJ lg
            go_step
            have H3 := Lib.hid (S2.out.exch (jp + 1) jp _ _ rfl rfl (by omega))
            have la := S2.out.own.cell (i := jp + 1) (by omega)
            have lb := S2.out.own.cell (i := jp) (by omega)
            have fa := S2.out.own.frozen (jp + 1)
            have fb := S2.out.own.frozen jp
            have lc := (S2.out.own.set (jp + 1) (f2 jp)).cell (i := jp) (by omega)
            clear S2
            go_wp2_with fail
            go_big_region
            clear la lb lc fa fb
            generalize ((y1.setCell ⟨g, jp + 1, none⟩ (.int .i64 (f2 jp))).setCell ⟨g, jp, none⟩ (.int .i64 (f2 (jp + 1)))).drew = w3 at H3 ⊢
            go_wp2
            go_roundg jp
            case measure => omega
            case rel => exact ⟨jp, exch f2 (jp + 1) jp, by first | rfl | go_num, by omega, by omega, Nat.le_refl _, Lib.hid (HI.out.step (by omega) (by omega) HK.out), H3⟩
          · have hv : decide (cmpV (key (f2 jp)) (key (f2 (jp + 1))) < 0) = false := by simpa using cmpV_not hk
            have HS := Lib.hid (HI.out.stop haj hji (Or.inr (by simpa using hk)))
            clear hk
            have hjad : (a : Int) < (jp : Int) + 1 := by omega
            have pa : (0 : Int) ≤ (jp : Int) + 1 := by omega
            have ba : (jp : Int) + 1 < (n : Int) := by omega
            have ra : IntKind.i64.wrap ((jp : Int) + 1) = (jp : Int) + 1 := by rw [IntKind.wrap_i64]; omega
            have pc1 : (0 : Int) ≤ (jp : Int) := by omega
            have bc1 : (jp : Int) < (n : Int) := by omega
            have rc : IntKind.i64.wrap (jp : Int) = (jp : Int) := by rw [IntKind.wrap_i64]; omega
            have la := SJ.out.own.cell (i := jp + 1) (by omega)
            have lb := SJ.out.own.cell (i := jp) (by omega)
            have lg : g < wr.heap.size := SJ.out.own.lt
            have hDj : ∀ k, k < n → D (f2 k) := HI.out.all (by omega) hD.out
            have HCM : Hid (∀ W, Below wr.heap.size wr W → Calls Tryz.prog 58 #[.int .i64 (f2 (jp + 1)), .int .i64 (f2 jp), v1, v2] W fun e w' => e = .returned (.int .i64 (cmpV (key (f2 jp)) (key (f2 (jp + 1))))) ∧ Below W.heap.size W w') := Lib.hid (fun W hW => HC.out W (SJ.out.mod.trans (Mod.of_below hW |>.mono (fun k h1 h2 => by omega))) _ _ (hDj (jp + 1) (by omega)) (hDj jp (by omega)))
            clear hDj
            go_upto_region 4 with (fail)
            refine region_z (S := fun w' => Below wr.heap.size wr w') [] (by kernel_rfl) (Below.refl _ _).drew (fun hHeld => ?_)
            refine zt (i := 0) (v := .int .i64 ((jp : Int) + 1)) [] (fun w' hSw => ?_) hHeld ?_
            · clear hHeld
              go_simp
            simp only [Act.put, zl3, zl4, zl5]
            refine zt (i := 1) (v := .int .i64 (a : Int)) [] (fun w' hSw => ?_) hHeld ?_
            · clear hHeld
              go_simp
            simp only [Act.put, zl3, zl4, zl5]
            refine zt (i := 2) (v := .bool true) [] (fun w' hSw => ?_) hHeld ?_
            · clear hHeld
              go_simp
              first | done | omega | (simp; omega)
            simp only [Act.put, zl3, zl4, zl5]
            refine zt (i := 3) (v := .bool true) [] (fun w' hSw => ?_) hHeld ?_
            · clear hHeld
              go_simp
            simp only [Act.put, zl3, zl4, zl5]
            refine zt (i := 4) (v := .func (.func 58) #[] #[v1, v2]) [] (fun w' hSw => ?_) hHeld ?_
            · clear hHeld
              go_simp
            simp only [Act.put, zl3, zl4, zl5]
            refine zt (i := 5) (v := .slice (some ⟨g, 0, none⟩) n cap) [] (fun w' hSw => ?_) hHeld ?_
            · clear hHeld
              go_simp
            simp only [Act.put, zl3, zl4, zl5]
            refine zt (i := 6) (v := .int .i64 ((jp : Int) + 1)) [] (fun w' hSw => ?_) hHeld ?_
            · clear hHeld
              go_simp
            simp only [Act.put, zl3, zl4, zl5]
            refine zt (i := 7) (v := .pointer (some ⟨g, jp + 1, none⟩)) [] (fun w' hSw => ?_) hHeld ?_
            · clear hHeld
              go_simp
            simp only [Act.put, zl3, zl4, zl5]
            refine zt (i := 8) (v := .int .i64 (f2 (jp + 1))) [] (fun w' hSw => ?_) hHeld ?_
            · clear hHeld
              have s0 := (hSw.cell (p := ⟨g, jp + 1, none⟩) lg).trans la
              go_simp
            simp only [Act.put, zl3, zl4, zl5]
            refine zt (i := 9) (v := .slice (some ⟨g, 0, none⟩) n cap) [] (fun w' hSw => ?_) hHeld ?_
            · clear hHeld
              go_simp
            simp only [Act.put, zl3, zl4, zl5]
            refine zt (i := 10) (v := .int .i64 ((jp : Int) + 1)) [] (fun w' hSw => ?_) hHeld ?_
            · clear hHeld
              go_simp
            simp only [Act.put, zl3, zl4, zl5]
            refine zt (i := 11) (v := .int .i64 (jp : Int)) [] (fun w' hSw => ?_) hHeld ?_
            · clear hHeld
              go_simp
            simp only [Act.put, zl3, zl4, zl5]
            refine zt (i := 12) (v := .pointer (some ⟨g, jp, none⟩)) [] (fun w' hSw => ?_) hHeld ?_
            · clear hHeld
              go_simp
            simp only [Act.put, zl3, zl4, zl5]
            refine zt (i := 13) (v := .int .i64 (f2 jp)) [] (fun w' hSw => ?_) hHeld ?_
            · clear hHeld
              have s0 := (hSw.cell (p := ⟨g, jp, none⟩) lg).trans lb
              go_simp
            simp only [Act.put, zl3, zl4, zl5]
            refine zo 14 (fun K' hK => ?_)
            rw [if_pos (by kernel_rfl)]
            go_simp
            refine (HCM.out _ hHeld).mono ?_
            rintro e y1 ⟨rfl, hb⟩
            refine hK.out _ _ ?_ (fun hHeld' => ?_)
            · exact below_then hHeld hb
            clear hK K' hb hHeld
            have hHeld := hHeld'
            clear hHeld'
            try simp only [Act.put, zl3, zl4, zl5]
            refine zt (i := 15) (v := .bool false) [] (fun w' hSw => ?_) hHeld ?_
            · clear hHeld
              go_simp
              first | done | exact hv | simpa using hv | (simp only [hv]; done)
            simp only [Act.put, zl3, zl4, zl5]
            refine zo 16 (fun K' hK => ?_)
            go_simp
            refine hK.out _ _ ?_ (fun hHeld => ?_)
            · exact hHeld
            clear hK K'
            try simp only [Act.put, zl3, zl4, zl5]
            refine wpAnyZ_done (by kernel_rfl) ?_ _
            have S2 := Lib.hid (SJ.out.below hHeld)
            clear hHeld la lb HCM SJ lg
            go_step
            clear HI
            go_wp2
            go_roundg (b - (i + 1))
            case measure => omega
            case rel => exact ⟨i + 1, f2, by go_num, by omega, by omega, by omega, Lib.hid (by rw [show min (i + 1) b = i + 1 from by omega]; exact HS.out), S2⟩
    · go_wp2
      go_end0
      exact ⟨rfl, f1, by have := HS.out; rwa [show min i b = b from by omega] at this, S1.out⟩
set_option maxHeartbeats 2000000 in
theorem sStableO_few (key : Int → Int) (D : Int → Prop) (v1 v2 : Value) (g n cap : Nat) (f : Nat → Int) (w0 w : World) (HC0 : CmpO key D v1 v2 g w0) (S0 : SortP w0 g n f w) (hn : n < 20) (hD0 : ∀ k, k < n → D (f k)) (hasc0 : Asc f 0 n) :
    Calls Tryz.prog 78 #[.slice (some ⟨g, 0, none⟩) n cap, .int .i64 n, .func (.func 58) #[] #[v1, v2]] w (SortPostP key 0 n f w0 g n) := by
  have HC := Lib.hid HC0
  have S := Lib.hid S0
  have hD := Lib.hid hD0
  have hasc := Lib.hid hasc0
  clear HC0 S0 hD0 hasc0
  have c1 : ¬ (20 : Int) ≤ (n : Int) := by omega
  have c2 : ¬ (20 : Int) < (n : Int) := by omega
  go_enter Tryz.func78, Tryz.ntmps78
  go_wp2
  refine wp_loop_rounds 1 ?_
  rw [rounds_succ]
  go_wp2_with fail
  refine (sInsertO_any key D v1 v2 g n cap 0 n _ _ f w0 _ rfl rfl HC.out S.out (by omega) (by omega) (by omega) hD.out hasc.out).mono ?_
  rintro e w1 ⟨rfl, f1, HS, S1⟩
  have H1 := Lib.hid HS
  have H2 := Lib.hid S1
  clear HS S1 S
  go_wp2
  refine wp_loop_rounds 1 ?_
  rw [rounds_succ]
  go_wp2
  go_end0
  exact ⟨rfl, f1, H1.out, H2.out⟩
theorem sSortStableO_few (key : Int → Int) (D : Int → Prop) (v1 v2 : Value) (g n cap : Nat) (f : Nat → Int) (w0 w : World) (HC0 : CmpO key D v1 v2 g w0) (S0 : SortP w0 g n f w) (hn : n < 20) (hD0 : ∀ k, k < n → D (f k)) (hasc0 : Asc f 0 n) :
    Calls Tryz.prog 57 #[.slice (some ⟨g, 0, none⟩) n cap, .func (.func 58) #[] #[v1, v2]] w (SortPostP key 0 n f w0 g n) := by
  have HC := Lib.hid (sStableO_few key D v1 v2 g n cap f w0 w HC0 S0 hn hD0 hasc0)
  clear HC0 S0 hD0 hasc0
  go_enter Tryz.func57, Tryz.ntmps57
  go_wp2_with fail
  refine HC.out.mono ?_
  rintro e w1 ⟨rfl, h⟩
  have H := Lib.hid h
  clear h HC
  go_wp2_with fail
  go_end0
  exact ⟨rfl, H.out⟩
end Go.Proofs.YtkbbapefgifagaaGreatDoor
/-
Two controllers: control.Order.
-/
namespace Go.Proofs.YtkbbapefgifagaaGreatDoor
open Go.RowKit
set_option linter.unusedVariables false
set_option linter.unusedSimpArgs false
set_option maxRecDepth 100000 in
theorem cmpCompare_any (x y : Int) (w : World) : Calls Tryz.prog 60 #[.int .i64 x, .int .i64 y] w fun e w' => e = .returned (.int .i64 (cmpV x y)) ∧ Below w.heap.size w w' := by
  have HNAN : Hid (∀ (z : Int) (W : World), Calls Tryz.prog 79 #[.int .i64 z] W fun e w' => e = .returned (.bool false) ∧ Below W.heap.size W w') := Lib.hid (fun z W => by
    have hzz : (z != z) = false := by simp
    go_enter Tryz.func79, Tryz.ntmps79
    go_wp2_with fail
    go_ret
    exact ⟨rfl, Below.refl _ _⟩)
  obtain ⟨R, hR⟩ : ∃ R, R = cmpV x y := ⟨_, rfl⟩
  rw [← hR]
  have HR := Lib.hid hR
  clear hR
  go_enter Tryz.func60, Tryz.ntmps60
  go_wp2_with fail
  refine (HNAN.out x _).mono ?_
  rintro e w1 ⟨rfl, hb1⟩
  have HB1 := Lib.hid hb1
  clear hb1
  go_wp2_with fail
  refine (HNAN.out y _).mono ?_
  rintro e w2 ⟨rfl, hb2⟩
  have HB2 := Lib.hid (below_then HB1.out hb2)
  clear hb2 HB1
  by_cases h1 : x < y
  · have hr : R = -1 := by rw [HR.out]; unfold cmpV; rw [if_pos h1]
    subst hr
    go_wp2_with fail
    go_ret
    exact ⟨rfl, HB2.out⟩
  · by_cases h2 : y < x
    · have hr : R = 1 := by rw [HR.out]; unfold cmpV; rw [if_neg h1, if_pos h2]
      subst hr
      go_wp2_with fail
      go_ret
      exact ⟨rfl, HB2.out⟩
    · have hr : R = 0 := by rw [HR.out]; unfold cmpV; rw [if_neg h1, if_neg h2]
      subst hr
      go_wp2_with fail
      go_ret
      exact ⟨rfl, HB2.out⟩
set_option maxRecDepth 100000 in
theorem cmpOr_three (Q : Nat) (c0 c1 c2 : Int) (w : World) (h0 : w.cell? ⟨Q, 0, none⟩ = some (.int .i64 c0)) (h1 : w.cell? ⟨Q, 1, none⟩ = some (.int .i64 c1)) (h2 : w.cell? ⟨Q, 2, none⟩ = some (.int .i64 c2)) (z0 : c0 = 0) (z1 : c1 = 0) :
    Calls Tryz.prog 59 #[.slice (some ⟨Q, 0, none⟩) 3 3] w fun e w' => e = .returned (.int .i64 c2) ∧ Below w.heap.size w w' := by
  subst z0 z1
  have H := Lib.hid (And.intro h0 (And.intro h1 h2))
  clear h0 h1 h2
  go_enter Tryz.func59, Tryz.ntmps59
  go_wp2_with fail
  go_loopg [8] 5 (fun g1 v8 wr => ∃ i : Nat, v8 = .int .i64 i ∧ i ≤ 3 ∧ 3 - i ≤ g1 ∧ Hid (i = 3 → c2 = 0) ∧ wr = w)
  case atStart => exact ⟨0, by go_num, by omega, by omega, Lib.hid (fun h => by omega), rfl⟩
  case round =>
    obtain ⟨i, rfl, hi, hg1, HI, rfl⟩ := hrel
    have l : Q < wr.heap.size := zb H.out.1
    by_cases e0 : i = 0
    · subst e0
      have c := H.out.1
      go_wp2_with fail
      go_roundg 2
      case measure => omega
      case rel => exact ⟨1, by go_num, by omega, by omega, Lib.hid (fun h => by omega), rfl⟩
    by_cases e1 : i = 1
    · subst e1
      have c := H.out.2.1
      go_wp2_with fail
      go_roundg 1
      case measure => omega
      case rel => exact ⟨2, by go_num, by omega, by omega, Lib.hid (fun h => by omega), rfl⟩
    by_cases e2 : i = 2
    · subst e2
      have c := H.out.2.2
      by_cases hz : c2 = 0
      · subst hz
        go_wp2_with fail
        go_roundg 0
        case measure => omega
        case rel => exact ⟨3, by go_num, by omega, by omega, Lib.hid (by simp), rfl⟩
      · have hbq : (c2 != 0) = true := by simpa using hz
        go_wp2_with fail
        go_ret
        exact ⟨rfl, Below.refl _ _⟩
    · have e3 : i = 3 := by omega
      subst e3
      have hc : c2 = 0 := HI.out rfl
      subst hc
      go_wp2_with fail
      go_ret
      exact ⟨rfl, Below.refl _ _⟩
/-- The demands of a controller's chargers: each wants, or not. -/
def DmOk (bD oD n : Nat) (wa : Nat → Bool) (W : World) : Prop := ∀ i, i < n → W.cell? ⟨bD, oD + i * 4, none⟩ = some (.bool (wa i)) ∧ W.cell? ⟨bD, oD + i * 4 + 1, none⟩ = some (.int .i64 0) ∧ W.cell? ⟨bD, oD + i * 4 + 2, none⟩ = some (.int .i64 500) ∧ W.cell? ⟨bD, oD + i * 4 + 3, none⟩ = some (.int .i64 1)
theorem DmOk.keep {bD oD n : Nat} {wa : Nat → Bool} {W W' : World} (h : DmOk bD oD n wa W) (hb : Below W.heap.size W W') : DmOk bD oD n wa W' := fun i hi => by
  obtain ⟨h0, h1, h2, h3⟩ := h i hi
  exact ⟨(hb.cell (zb h0)).trans h0, (hb.cell (zb h1)).trans h1, (hb.cell (zb h2)).trans h2, (hb.cell (zb h3)).trans h3⟩
theorem DmOk.mod {bD oD n : Nat} {wa : Nat → Bool} {W W' : World} {M : Nat → Prop} (h : DmOk bD oD n wa W) (hb : Mod M W W') (hn : ¬ M bD) : DmOk bD oD n wa W' := fun i hi => by
  obtain ⟨h0, h1, h2, h3⟩ := h i hi
  exact ⟨(hb.cell (zb h0) hn).trans h0, (hb.cell (zb h1) hn).trans h1, (hb.cell (zb h2) hn).trans h2, (hb.cell (zb h3) hn).trans h3⟩
set_option maxRecDepth 100000 in
theorem coOrder1_ok (B K x bD oD cD n : Nat) (tick : Int) (wa : Nat → Bool) (w : World) (hB : w.cell? ⟨B, 0, none⟩ = some (.slice (some ⟨bD, oD, none⟩) n cD)) (hKc : w.cell? ⟨K, 0, none⟩ = some (.int .i64 tick)) (HD : Hid (DmOk bD oD n wa w)) (hx : x < n) (ht : 0 ≤ tick ∧ tick ≤ 100000) :
    Calls Tryz.prog 56 #[.int .i64 (x : Nat), .pointer (some ⟨B, 0, none⟩), .pointer (some ⟨K, 0, none⟩)] w fun e w' => e = .returned (.int .i64 (500 - tick)) ∧ Below w.heap.size w w' := by
  obtain ⟨ht0, ht1⟩ := ht
  have hxz : (x : Int) < (n : Int) := by omega
  obtain ⟨_, d1, d2, _⟩ := HD.out x hx
  have l1 : B < w.heap.size := zb hB
  have l2 : K < w.heap.size := zb hKc
  have l3 : bD < w.heap.size := zb d1
  have w1' : IntKind.i64.wrap (500 - tick) = 500 - tick := IntWalk.i64_in _ (by omega)
  have w2' : IntKind.i64.wrap (500 - tick - 0) = 500 - tick := by rw [IntWalk.i64_in _ (by omega)]; omega
  clear HD
  go_enter Tryz.func56, Tryz.ntmps56
  go_upto_region 1 with (fail)
  go_quiet (fail)
  go_wp2_with fail
  go_ret
  exact ⟨ret_int (by omega), below_drewG _ (Below.refl _ w)⟩
set_option maxRecDepth 100000 in
set_option maxHeartbeats 8000000 in
theorem coOrder2_ok (B K Y x y bD oD cD n : Nat) (tick : Int) (wa : Nat → Bool) (w : World) (hB : w.cell? ⟨B, 0, none⟩ = some (.slice (some ⟨bD, oD, none⟩) n cD)) (hKc : w.cell? ⟨K, 0, none⟩ = some (.int .i64 tick)) (hY : w.cell? ⟨Y, 0, none⟩ = some (.func (.func 56) #[] #[.pointer (some ⟨B, 0, none⟩), .pointer (some ⟨K, 0, none⟩)])) (HD : Hid (DmOk bD oD n wa w)) (hx : x < n) (hy : y < n) (ht : 0 ≤ tick ∧ tick ≤ 100000) :
    Calls Tryz.prog 58 #[.int .i64 (x : Nat), .int .i64 (y : Nat), .pointer (some ⟨B, 0, none⟩), .pointer (some ⟨Y, 0, none⟩)] w fun e w' => e = .returned (.int .i64 (cmpV x y)) ∧ Below w.heap.size w w' := by
  have hxz : (x : Int) < (n : Int) := by omega
  have hyz : (y : Int) < (n : Int) := by omega
  obtain ⟨R, hR⟩ : ∃ R, R = cmpV (x : Int) (y : Int) := ⟨_, rfl⟩
  rw [← hR]
  have HR := Lib.hid hR
  clear hR
  go_enter Tryz.func58, Tryz.ntmps58
  go_upto_region 1 with (fail)
  refine region_z (S := fun w' => Below w.heap.size w w') [] (by kernel_rfl) ((Below.refl _ _).drew) (fun hHeld => ?_)
  refine zt (i := 0) (v := .slice (some ⟨bD, oD, none⟩) n cD) [] (fun w' hSw => ?_) hHeld ?_
  · have p' := (hSw.cell (zb hB)).trans hB
    have lp := zb p'
    dsimp only at lp
    clear hHeld hSw
    go_simp
  simp only [Act.put, zl0, zl1, zl2, zl3, zl4, zl5]
  refine zt (i := 1) (v := .int .i64 (x : Nat)) [] (fun w' hSw => ?_) hHeld ?_
  · clear hHeld hSw
    go_simp
  simp only [Act.put, zl0, zl1, zl2, zl3, zl4, zl5]
  refine zt (i := 2) (v := .pointer (some ⟨bD, oD + x * 4, none⟩)) [] (fun w' hSw => ?_) hHeld ?_
  · clear hHeld hSw
    go_simp
  simp only [Act.put, zl0, zl1, zl2, zl3, zl4, zl5]
  refine zt (i := 3) (v := .pointer (some ⟨bD, oD + x * 4 + 3, none⟩)) [] (fun w' hSw => ?_) hHeld ?_
  · clear hHeld hSw
    go_simp
  simp only [Act.put, zl0, zl1, zl2, zl3, zl4, zl5]
  refine zt (i := 4) (v := .int .i64 1) [] (fun w' hSw => ?_) hHeld ?_
  · have q' := (hSw.cell (zb (HD.out x hx).2.2.2)).trans (HD.out x hx).2.2.2
    have lq := zb q'
    dsimp only at lq
    clear hHeld hSw
    go_simp
  simp only [Act.put, zl0, zl1, zl2, zl3, zl4, zl5]
  refine zt (i := 5) (v := .slice (some ⟨bD, oD, none⟩) n cD) [] (fun w' hSw => ?_) hHeld ?_
  · have p' := (hSw.cell (zb hB)).trans hB
    have lp := zb p'
    dsimp only at lp
    clear hHeld hSw
    go_simp
  simp only [Act.put, zl0, zl1, zl2, zl3, zl4, zl5]
  refine zt (i := 6) (v := .int .i64 (y : Nat)) [] (fun w' hSw => ?_) hHeld ?_
  · clear hHeld hSw
    go_simp
  simp only [Act.put, zl0, zl1, zl2, zl3, zl4, zl5]
  refine zt (i := 7) (v := .pointer (some ⟨bD, oD + y * 4, none⟩)) [] (fun w' hSw => ?_) hHeld ?_
  · clear hHeld hSw
    go_simp
  simp only [Act.put, zl0, zl1, zl2, zl3, zl4, zl5]
  refine zt (i := 8) (v := .pointer (some ⟨bD, oD + y * 4 + 3, none⟩)) [] (fun w' hSw => ?_) hHeld ?_
  · clear hHeld hSw
    go_simp
  simp only [Act.put, zl0, zl1, zl2, zl3, zl4, zl5]
  refine zt (i := 9) (v := .int .i64 1) [] (fun w' hSw => ?_) hHeld ?_
  · have q' := (hSw.cell (zb (HD.out y hy).2.2.2)).trans (HD.out y hy).2.2.2
    have lq := zb q'
    dsimp only at lq
    clear hHeld hSw
    go_simp
  simp only [Act.put, zl0, zl1, zl2, zl3, zl4, zl5]
  refine zt (i := 11) (v := .func (.func 56) #[] #[.pointer (some ⟨B, 0, none⟩), .pointer (some ⟨K, 0, none⟩)]) [] (fun w' hSw => ?_) hHeld ?_
  · have r' := (hSw.cell (zb hY)).trans hY
    have lr := zb r'
    dsimp only at lr
    clear hHeld hSw
    go_simp
  simp only [Act.put, zl0, zl1, zl2, zl3, zl4, zl5]
  refine zt (i := 12) (v := .int .i64 (x : Nat)) [] (fun w' hSw => ?_) hHeld ?_
  · clear hHeld hSw
    go_simp
  simp only [Act.put, zl0, zl1, zl2, zl3, zl4, zl5]
  refine zt (i := 14) (v := .func (.func 56) #[] #[.pointer (some ⟨B, 0, none⟩), .pointer (some ⟨K, 0, none⟩)]) [] (fun w' hSw => ?_) hHeld ?_
  · have r' := (hSw.cell (zb hY)).trans hY
    have lr := zb r'
    dsimp only at lr
    clear hHeld hSw
    go_simp
  simp only [Act.put, zl0, zl1, zl2, zl3, zl4, zl5]
  refine zt (i := 15) (v := .int .i64 (y : Nat)) [] (fun w' hSw => ?_) hHeld ?_
  · clear hHeld hSw
    go_simp
  simp only [Act.put, zl0, zl1, zl2, zl3, zl4, zl5]
  refine zt (i := 18) (v := .int .i64 (x : Nat)) [] (fun w' hSw => ?_) hHeld ?_
  · clear hHeld hSw
    go_simp
  simp only [Act.put, zl0, zl1, zl2, zl3, zl4, zl5]
  refine zt (i := 19) (v := .int .i64 (y : Nat)) [] (fun w' hSw => ?_) hHeld ?_
  · clear hHeld hSw
    go_simp
  simp only [Act.put, zl0, zl1, zl2, zl3, zl4, zl5]
  refine zo 10 (fun K' hK => ?_)
  go_simp
  refine (cmpCompare_any 1 1 _).mono ?_
  rintro e wk ⟨rfl, hbk⟩
  refine hK.out _ _ ?_ (fun hHeld' => ?_)
  · exact hHeld.trans (hbk.mono hHeld.size)
  clear hK K' hHeld hbk
  have hHeld := hHeld'
  clear hHeld'
  try simp only [Act.put, zl0, zl1, zl2, zl3, zl4, zl5]
  refine zo 13 (fun K' hK => ?_)
  rw [if_pos (by rfl)]
  go_simp
  refine (coOrder1_ok B K x bD oD cD n tick wa _ ((hHeld.cell (zb hB)).trans hB) ((hHeld.cell (zb hKc)).trans hKc) (Lib.hid (HD.out.keep hHeld)) hx ht).mono ?_
  rintro e wk ⟨rfl, hbk⟩
  refine hK.out _ _ ?_ (fun hHeld' => ?_)
  · exact hHeld.trans (hbk.mono hHeld.size)
  clear hK K' hHeld hbk
  have hHeld := hHeld'
  clear hHeld'
  try simp only [Act.put, zl0, zl1, zl2, zl3, zl4, zl5]
  refine zo 16 (fun K' hK => ?_)
  rw [if_pos (by rfl)]
  go_simp
  refine (coOrder1_ok B K y bD oD cD n tick wa _ ((hHeld.cell (zb hB)).trans hB) ((hHeld.cell (zb hKc)).trans hKc) (Lib.hid (HD.out.keep hHeld)) hy ht).mono ?_
  rintro e wk ⟨rfl, hbk⟩
  refine hK.out _ _ ?_ (fun hHeld' => ?_)
  · exact hHeld.trans (hbk.mono hHeld.size)
  clear hK K' hHeld hbk
  have hHeld := hHeld'
  clear hHeld'
  try simp only [Act.put, zl0, zl1, zl2, zl3, zl4, zl5]
  refine zo 17 (fun K' hK => ?_)
  go_simp
  refine (cmpCompare_any (500 - tick) (500 - tick) _).mono ?_
  rintro e wk ⟨rfl, hbk⟩
  refine hK.out _ _ ?_ (fun hHeld' => ?_)
  · exact hHeld.trans (hbk.mono hHeld.size)
  clear hK K' hHeld hbk
  have hHeld := hHeld'
  clear hHeld'
  try simp only [Act.put, zl0, zl1, zl2, zl3, zl4, zl5]
  refine zo 20 (fun K' hK => ?_)
  go_simp
  refine (cmpCompare_any (x : Int) (y : Int) _).mono ?_
  rintro e wk ⟨rfl, hbk⟩
  refine hK.out _ _ ?_ (fun hHeld' => ?_)
  · exact hHeld.trans (hbk.mono hHeld.size)
  clear hK K' hHeld hbk
  have hHeld := hHeld'
  clear hHeld'
  try simp only [Act.put, zl0, zl1, zl2, zl3, zl4, zl5]
  refine zo 21 (fun K' hK => ?_)
  obtain ⟨c0, hc0⟩ : ∃ c, c = cmpV 1 1 := ⟨_, rfl⟩
  obtain ⟨c1, hc1⟩ : ∃ c, c = cmpV (500 - tick) (500 - tick) := ⟨_, rfl⟩
  obtain ⟨c2, hc2⟩ : ∃ c, c = cmpV (x : Int) (y : Int) := ⟨_, rfl⟩
  rw [← hc0, ← hc1, ← hc2]
  have hz0 : c0 = 0 := by rw [hc0]; rfl
  have hz1 : c1 = 0 := by rw [hc1]; unfold cmpV; simp
  have HZ := Lib.hid (And.intro hz0 (And.intro hz1 hc2))
  clear hc0 hc1 hc2 hz0 hz1
  obtain ⟨wb, hwb⟩ : ∃ w', w' = wk := ⟨_, rfl⟩
  rw [← hwb] at hHeld ⊢
  clear hwb
  obtain ⟨wq, hwq⟩ : ∃ w', w' = wb.alloc (.cells #[.int .i64 c0, .int .i64 c1, .int .i64 c2] 3) := ⟨_, rfl⟩
  have hbq : Below wb.heap.size wb wq := by rw [hwq]; exact (Below.refl _ _).alloc (Nat.le_refl _) _
  obtain ⟨Q, hQ⟩ : ∃ Q, Q = wb.heap.size := ⟨_, rfl⟩
  have hq0 : wq.cell? ⟨Q, 0, none⟩ = some (.int .i64 c0) ∧ wq.cell? ⟨Q, 1, none⟩ = some (.int .i64 c1) ∧ wq.cell? ⟨Q, 2, none⟩ = some (.int .i64 c2) := by rw [hwq, hQ]; exact ⟨by go_simp, by go_simp, by go_simp⟩
  go_simp
  rw [← hwq, ← hQ]
  clear hwq hQ
  refine hK.out _ _ ?_ (fun hHeld' => ?_)
  · exact hHeld.trans (hbq.mono hHeld.size)
  clear hK K' hHeld hbq
  have hHeld := hHeld'
  clear hHeld'
  try simp only [Act.put, zl0, zl1, zl2, zl3, zl4, zl5]
  refine zo 22 (fun K' hK => ?_)
  go_simp
  refine (cmpOr_three Q c0 c1 c2 wq hq0.1 hq0.2.1 hq0.2.2 HZ.out.1 HZ.out.2.1).mono ?_
  rintro e wk ⟨rfl, hbk⟩
  refine hK.out _ _ ?_ (fun hHeld' => ?_)
  · exact hHeld.trans (hbk.mono hHeld.size)
  clear hK K' hHeld hbk
  have hHeld := hHeld'
  clear hHeld'
  try simp only [Act.put, zl0, zl1, zl2, zl3, zl4, zl5]
  refine zt (i := 23) (v := .int .i64 c2) [] (fun w' hSw => ?_) hHeld ?_
  · clear hHeld hSw
    go_simp
  simp only [Act.put, zl0, zl1, zl2, zl3, zl4, zl5]
  refine wpAnyZ_done (by kernel_rfl) ?_ _
  go_wp2_with fail
  go_ret
  exact ⟨ret_int (by rw [HR.out, HZ.out.2.2]), hHeld⟩
theorem cmpV_swap (x y : Int) : cmpV (-y) (-x) = cmpV x y := by
  unfold cmpV
  by_cases h1 : x < y
  · rw [if_pos h1, if_pos (by omega)]
  · rw [if_neg h1, if_neg (by omega)]
    by_cases h2 : y < x
    · rw [if_pos h2, if_pos (by omega)]
    · rw [if_neg h2, if_neg (by omega)]
/-- What Order does. -/
def OdPost (n : Nat) (w : World) (e : Ending) (w' : World) : Prop := ∃ (G : Nat) (f : Nat → Int), e = .returned (.slice (some ⟨G, 0, none⟩) n n) ∧ w.heap.size ≤ G ∧ (∀ i, i < n → w'.cell? ⟨G, i, none⟩ = some (.int .i64 (f i))) ∧ (∀ i, i < n → 0 ≤ f i ∧ f i < (n : Nat)) ∧ (∀ i j, i < j → j < n → f i ≠ f j) ∧ Below w.heap.size w w'
set_option maxRecDepth 100000 in
set_option maxHeartbeats 8000000 in
theorem coOrder_ok (bD oD cD n : Nat) (tick : Int) (wa : Nat → Bool) (w : World) (HD : Hid (DmOk bD oD n wa w)) (hn0 : 0 < n) (hn4 : n ≤ 4) (ht : 0 ≤ tick ∧ tick ≤ 100000) :
    Calls Tryz.prog 41 #[.slice (some ⟨bD, oD, none⟩) n cD, .int .i64 tick] w (OdPost n w) := by
  have HT := Lib.hid ht
  clear ht
  obtain ⟨W0, hW0⟩ : ∃ W, W = (w.alloc (.cells #[.slice (some ⟨bD, oD, none⟩) n cD] 42)).alloc (.cells #[.int .i64 tick] 3) := ⟨_, rfl⟩
  obtain ⟨B, hB⟩ : ∃ B, B = w.heap.size := ⟨_, rfl⟩
  have hb0 : Below w.heap.size w W0 := by rw [hW0]; exact ((Below.refl _ _).alloc (Nat.le_refl _) _).alloc (by simp) _
  have k0 : W0.cell? ⟨B, 0, none⟩ = some (.slice (some ⟨bD, oD, none⟩) n cD) := by rw [hW0, hB]; go_simp
  have k1 : W0.cell? ⟨B + 1, 0, none⟩ = some (.int .i64 tick) := by rw [hW0, hB]; go_simp
  have lB : B < W0.heap.size := World.block_lt_of_cell? W0 _ k0
  have hW0s : W0.heap.size = B + 2 := by rw [hW0, hB]; simp
  have HK0 := Lib.hid (And.intro k0 k1)
  have HBq := Lib.hid hB
  have HB := Lib.hid hb0
  have HW0 := Lib.hid (And.intro hW0.symm hB.symm)
  clear hb0 hW0 hB
  obtain ⟨W1, hmk, hown, hb1, hsz⟩ := mk_ints n (by omega) W0
  obtain ⟨G, hG⟩ : ∃ G, G = W0.heap.size := ⟨_, rfl⟩
  rw [← hG] at hmk hown
  have HOW := Lib.hid hown
  have HB1 := Lib.hid hb1
  have HG := Lib.hid hG
  have HSZ := Lib.hid (And.intro hsz hW0s)
  clear hown hb1 hsz hG hW0s
  go_enter Tryz.func41, Tryz.ntmps41
  go_upto_region 1 with (fail)
  try simp only [World.size_alloc]
  rw [HW0.out.1, HW0.out.2]
  go_wp2_with fail
  go_loopg [13] (n + 1) (fun g1 v13 wr => ∃ i : Nat, v13 = .int .i64 i ∧ i ≤ n ∧ n - i ≤ g1 ∧ Hid (Own wr G 3 n (fun j => if j < i then .int .i64 (j : Nat) else .int .i64 0)) ∧ Hid (Mod (fun j => j = G) W0 wr) ∧ Hid (wr.heap.size = W1.heap.size))
  case atStart => exact ⟨0, by go_num, by omega, by omega, Lib.hid (HOW.out.congr (fun j hj => by rw [if_neg (by omega)])), Lib.hid ((Mod.of_below HB1.out).mono (fun k hk h => by omega)), Lib.hid rfl⟩
  case round =>
    clear HOW HB1 hmk k0 k1 lB
    obtain ⟨i, rfl, hi, hg1, HO, HM, HSr⟩ := hrel
    by_cases hlt : i < n
    · have hltz : (i : Int) < (n : Int) := by omega
      have c := HO.out.cell hlt
      have f := HO.out.frozen i
      have l := HO.out.lt
      have HOn := Lib.hid ((HO.out.set i (.int .i64 (i : Nat))).congr (f' := fun j => if j < i + 1 then .int .i64 (j : Nat) else .int .i64 0) (fun j hj => by
        by_cases e : j = i
        · rw [if_pos e, if_pos (by omega), e]
        · rw [if_neg e]
          by_cases e2 : j < i
          · rw [if_pos e2, if_pos (by omega)]
          · rw [if_neg e2, if_neg (by omega)]))
      have HMn := Lib.hid (HM.out.setCell (p := ⟨G, i, none⟩) (.inl rfl) (.int .i64 (i : Nat)))
      clear HO HM
      go_wp2_with fail
      go_roundg (n - (i + 1))
      case measure => omega
      case rel => exact ⟨i + 1, by go_num, by omega, by omega, HOn, HMn, Lib.hid (by simpa using HSr.out)⟩
    · have hltz : ¬ (i : Int) < (n : Int) := by omega
      have hin : i = n := by omega
      obtain ⟨W2, hW2⟩ : ∃ W, W = wr.alloc (.cells #[.func (.func 56) #[] #[.pointer (some ⟨B, 0, none⟩), .pointer (some ⟨B + 1, 0, none⟩)]] 45) := ⟨_, rfl⟩
      obtain ⟨Y, hY⟩ : ∃ Y, Y = wr.heap.size := ⟨_, rfl⟩
      have hb2 : Below wr.heap.size wr W2 := by rw [hW2]; exact (Below.refl _ _).alloc (Nat.le_refl _) _
      have hy2 : W2.cell? ⟨Y, 0, none⟩ = some (.func (.func 56) #[] #[.pointer (some ⟨B, 0, none⟩), .pointer (some ⟨B + 1, 0, none⟩)]) := by rw [hW2, hY]; go_simp
      have hO2 := HO.out.keep hb2 HO.out.lt
      have hm2 : Mod (fun j => j = G) W0 W2 := mod_then HM.out hb2
      have HBW := Lib.hid (And.intro (hm2.cell (zb HK0.out.1) (fun e => by have := HG.out; have := HSZ.out.2; have := HBq.out; dsimp only at e; omega)) (hm2.cell (zb HK0.out.2) (fun e => by have := HG.out; have := HSZ.out.2; have := HBq.out; dsimp only at e; omega)))
      have HB2 := Lib.hid (And.intro (HBW.out.1.trans HK0.out.1) (HBW.out.2.trans HK0.out.2))
      have HD2 : Hid (DmOk bD oD n wa W2) := Lib.hid ((HD.out.keep HB.out).mod hm2 (fun e => by
        have h1 := zb (HD.out 0 hn0).1
        have h2 := HB.out.size
        have h3 := HG.out
        dsimp only at h1
        omega))
      have HGY : Hid (B ≠ G ∧ B + 1 ≠ G ∧ Y ≠ G ∧ bD ≠ G) := Lib.hid (by
        have h1 := zb (HD.out 0 hn0).1
        have h2 := HB.out.size
        have h3 := HG.out
        have h4 := HSr.out
        have h5 := HSZ.out
        have h6 := HBq.out
        dsimp only at h1
        refine ⟨?_, ?_, ?_, ?_⟩ <;> omega)
      have HC : Hid (CmpO (fun x => -x) (fun x => 0 ≤ x ∧ x < (n : Nat)) (.pointer (some ⟨B, 0, none⟩)) (.pointer (some ⟨Y, 0, none⟩)) G W2) := Lib.hid (fun W hM x y hx hy => by
        obtain ⟨x', rfl⟩ : ∃ k : Nat, x = (k : Int) := ⟨x.toNat, by omega⟩
        obtain ⟨y', rfl⟩ : ∃ k : Nat, y = (k : Int) := ⟨y.toNat, by omega⟩
        have e : cmpV (-(y' : Int)) (-(x' : Int)) = cmpV (x' : Int) (y' : Int) := cmpV_swap _ _
        show Calls Tryz.prog 58 _ _ fun e w' => e = .returned (.int .i64 (cmpV (-(y' : Int)) (-(x' : Int)))) ∧ Below W.heap.size W w'
        rw [e]
        exact coOrder2_ok B (B + 1) Y x' y' bD oD cD n tick wa W ((hM.cell (zb HB2.out.1) HGY.out.1).trans HB2.out.1) ((hM.cell (zb HB2.out.2) HGY.out.2.1).trans HB2.out.2) ((hM.cell (zb hy2) HGY.out.2.2.1).trans hy2) (Lib.hid (HD2.out.mod hM HGY.out.2.2.2)) (by omega) (by omega) HT.out)
      have HSP : Hid (SortP W2 G n (fun j => (j : Int)) W2) := Lib.hid ⟨by
        obtain ⟨cs, e1, e2, e3⟩ := hO2
        exact ⟨cs, e1, by rw [e2]; exact Nat.le_refl _, fun j hj => by rw [e3 j hj]; exact congrArg some (if_pos (by omega))⟩, Mod.refl _ _⟩
      have HM2 := Lib.hid hm2
      have HW2 := Lib.hid (And.intro hW2.symm hY.symm)
      clear hW2 hY hb2 hy2 hO2 hm2 HO HM HSr
      subst hin
      go_wp2_with fail
      try simp only [World.size_alloc]
      rw [HW2.out.1, HW2.out.2]
      clear HW2
      refine (sSortStableO_few (fun x => -x) (fun x => 0 ≤ x ∧ x < (i : Nat)) _ _ G i i (fun j => (j : Int)) W2 W2 HC.out HSP.out (by omega) (fun k hk => ⟨by omega, by omega⟩) (fun p q _ h _ => by show (p : Int) < (q : Int); omega)).mono ?_
      rintro e w3 ⟨rfl, f', hs, hp⟩
      have HS := Lib.hid hs
      have HP := Lib.hid hp
      clear hs hp
      go_wp2_with fail
      go_ret
      refine ⟨G, f', rfl, ?_, fun j hj => HP.out.own.cell hj, fun j hj => ?_, fun p q h1 h2 => ?_, ?_⟩
      · rw [HG.out]; exact HB.out.size
      · exact Sorts.all HS.out (n := i) (Nat.le_refl _) (D := fun x => 0 ≤ x ∧ x < (i : Nat)) (fun k hk => ⟨by omega, by omega⟩) j hj
      · have h := HS.out.sorted p q (by omega) h1 h2
        unfold klt at h
        dsimp only at h
        omega
      · exact HB.out.trans (((HM2.out.trans HP.out.mod).below (Nat.le_refl _) (fun j hj e => by have := HG.out; omega)).mono HB.out.size)
end Go.Proofs.YtkbbapefgifagaaGreatDoor
