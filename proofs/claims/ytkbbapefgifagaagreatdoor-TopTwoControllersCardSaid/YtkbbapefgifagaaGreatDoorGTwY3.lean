/-
Several texts in one: TwY3, TwY4.
-/
import Derived.Test.YtkbbapefgifagaaGreatDoorCTwY2
/-
Two controllers: control: valid.
-/
namespace Go.Proofs.YtkbbapefgifagaaGreatDoor
open Go.RowKit
set_option linter.unusedVariables false
set_option linter.unusedSimpArgs false
set_option maxRecDepth 100000 in
theorem coInside_in (n a b : Int) (w : World) (h0 : a ≤ n) (h1 : n ≤ b) : Calls Tryz.prog 62 #[.int .i64 n, .int .i64 a, .int .i64 b] w fun e w' => e = .returned (.bool true) ∧ Below w.heap.size w w' := by
  go_enter Tryz.func62, Tryz.ntmps62
  go_wp2_with fail
  go_ret
  exact ⟨rfl, Below.refl _ _⟩
set_option maxRecDepth 100000 in
theorem coDemand_ok (b : Bool) (w : World) : Calls Tryz.prog 64 #[.agg #[.bool b, .int .i64 0, .int .i64 500, .int .i64 1]] w fun e w' => e = .returned (.bool true) ∧ Below w.heap.size w w' := by
  obtain ⟨W0, hW0⟩ : ∃ W, W = w.alloc (.cells #[.bool b, .int .i64 0, .int .i64 500, .int .i64 1] 55) := ⟨_, rfl⟩
  obtain ⟨B, hB⟩ : ∃ B, B = w.heap.size := ⟨_, rfl⟩
  have hb0 : Below w.heap.size w W0 := by rw [hW0]; exact (Below.refl _ _).alloc (Nat.le_refl _) _
  obtain ⟨c1, c2, c3⟩ : W0.cell? ⟨B, 1, none⟩ = some (.int .i64 0) ∧ W0.cell? ⟨B, 2, none⟩ = some (.int .i64 500) ∧ W0.cell? ⟨B, 3, none⟩ = some (.int .i64 1) := by rw [hW0, hB]; exact ⟨by go_simp, by go_simp, by go_simp⟩
  have lB : B < W0.heap.size := zb c1
  have HB := Lib.hid hb0
  have HW0 := Lib.hid (And.intro hW0.symm hB.symm)
  clear hb0 hW0 hB
  go_enter Tryz.func64, Tryz.ntmps64
  go_upto_region 1 with (fail)
  try simp only [World.size_alloc]
  rw [HW0.out.1, HW0.out.2]
  clear HW0
  go_wp2_with fail
  refine (coInside_in 0 0 1000000000 _ (by omega) (by omega)).mono ?_
  rintro e w1 ⟨rfl, hb1⟩
  have c2' := (hb1.cell (zb c2)).trans c2
  have c3' := (hb1.cell (zb c3)).trans c3
  have lB1 : B < w1.heap.size := zb c2'
  have HB1 := Lib.hid (below_then HB.out hb1)
  clear hb1 c1 c2 c3 lB HB
  go_wp2_with fail
  refine (coInside_in 500 0 1000000 _ (by omega) (by omega)).mono ?_
  rintro e w2 ⟨rfl, hb2⟩
  have c3 := (hb2.cell (zb c3')).trans c3'
  have lB : B < w2.heap.size := zb c3
  have HB2 := Lib.hid (below_then HB1.out hb2)
  clear hb2 c2' c3' lB1 HB1
  go_wp2_with fail
  refine (coInside_in 1 1 9 _ (by omega) (by omega)).mono ?_
  rintro e w3 ⟨rfl, hb3⟩
  have HB3 := Lib.hid (below_then HB2.out hb3)
  clear hb3
  go_wp2_with fail
  go_ret
  exact ⟨rfl, HB3.out⟩
/-- The ramps of a controller's chargers. -/
def RmC (bR oR n : Nat) (rs : Nat → Rmp) (W : World) : Prop := ∀ i, i < n → W.cell? ⟨bR, oR + i * 2, none⟩ = some (.int .i64 (rs i).amp) ∧ W.cell? ⟨bR, oR + i * 2 + 1, none⟩ = some (.int .i64 (rs i).snc) ∧ RmOk (rs i)
theorem RmC.keep {bR oR n : Nat} {rs : Nat → Rmp} {W W' : World} (h : RmC bR oR n rs W) (hb : Below W.heap.size W W') : RmC bR oR n rs W' := fun i hi => by
  obtain ⟨h0, h1, h2⟩ := h i hi
  exact ⟨(hb.cell (zb h0)).trans h0, (hb.cell (zb h1)).trans h1, h2⟩
set_option maxRecDepth 100000 in
set_option maxHeartbeats 8000000 in
theorem coValid_ok (C n1 c1 n2 c2 n3 c3 bC oC c4 n5 c5 nL cL bD oD cD bO oO cO n : Nat) (a1 a2 a3 a5 aL : Option Addr) (tick : Int) (bR oR cR : Nat) (s : GSite) (cap num : Int) (ls : List Lse) (wa : Nat → Bool) (rs : Nat → Rmp) (w : World) (HC : Hid (DcC C n1 c1 n2 c2 n3 c3 bC oC c4 n5 c5 nL cL bD oD cD bO oO cO n a1 a2 a3 a5 aL tick w)) (HS : Hid (RdSite w a1 a2 a3 (some ⟨bC, oC, none⟩) a5 n1 n2 n3 n n5 s)) (HP : Hid (ParkS s n cap)) (HD : Hid (DmOk bD oD n wa w))
    (HX : Hid (Rd 5 encLse w aL ls)) (HNL : Hid (ls.length = nL)) (HO : Hid (LsOk ls)) (HCG : Hid (∀ x ∈ ls, x.chg < (n : Int))) (HRM : Hid (RmC bR oR n rs w)) (ht0 : 0 ≤ tick) (ht1 : tick ≤ 1000000) (hm0 : 1 ≤ num) (hm1 : num ≤ 999900) :
    Calls Tryz.prog 42 #[.pointer (some ⟨C, 0, none⟩), .slice (some ⟨bR, oR, none⟩) n cR, .int .i64 num] w fun e w' => e = .returned (.bool true) ∧ Below w.heap.size w w' := by
  have hn : n ≤ 4 := HP.out.n4
  have hn0 : 0 < n := HP.out.n0
  have hn64 : nL ≤ 64 := by rw [← HNL.out]; exact HO.out.len
  have HCH : Hid (ChC bC oC n s w) := Lib.hid (fun i hi => park_cells HS.out.r4 HS.out.l4 HP.out hi)
  have HR := Lib.hid (limRows_any a1 a2 a3 (some ⟨bC, oC, none⟩) a5 n1 c1 n2 c2 n3 c3 n c4 n5 c5 s w HS)
  obtain ⟨k0, k1, k2, k3, k4⟩ := And.intro HC.out.k0 (And.intro HC.out.k1 (And.intro HC.out.k2 (And.intro HC.out.k3 HC.out.k4)))
  have lC : C < w.heap.size := zb k0
  go_enter Tryz.func42, Tryz.ntmps42
  go_wp2_with fail
  refine HR.out.mono ?_
  rintro e w1 ⟨aR', cR', hs, rfl, _, hb1⟩
  have her : errO (okSB keyL s) = 0 := by rw [HP.out.ok]; rfl
  rw [her]
  have HB1 := Lib.hid hb1
  have k5 := (HC.out.keep hb1).k5
  have lC1 : C < w1.heap.size := zb k5
  clear hb1 k0 k1 k2 k3 k4 lC HR her
  go_wp2_with fail
  refine (leValid_ok aL nL cL ls w1 (Lib.hid (HX.out.keep HB1.out)) HNL HO).mono ?_
  rintro e w2 ⟨rfl, hb2⟩
  have HB2 := Lib.hid (below_then HB1.out hb2)
  clear hb2 k5 lC1 HB1
  have k3 := (HC.out.keep HB2.out).k3
  have k6 := (HC.out.keep HB2.out).k6
  have k7 := (HC.out.keep HB2.out).k7
  have lC2 : C < w2.heap.size := zb k3
  have hbn : ((n : Int) != (n : Int)) = false := by simp
  go_wp2_with fail
  refine (coInside_in tick 0 1000000 _ (by omega) (by omega)).mono ?_
  rintro e w3 ⟨rfl, hb3⟩
  have HB3 := Lib.hid (below_then HB2.out hb3)
  clear hb3 k3 k6 k7 lC2 HB2
  go_wp2_with fail
  refine (coInside_in num 1 999900 _ (by omega) (by omega)).mono ?_
  rintro e w4 ⟨rfl, hb4⟩
  have HB4 := Lib.hid (below_then HB3.out hb4)
  clear hb4 HB3
  have k5 := (HC.out.keep HB4.out).k5
  have lC4 : C < w4.heap.size := zb k5
  go_wp2_with fail
  go_loopg [69] (nL + 1) (fun g1 v69 wr => ∃ k : Nat, v69 = .int .i64 k ∧ k ≤ nL ∧ nL - k ≤ g1 ∧ Hid (Below w.heap.size w wr))
  case atStart => exact ⟨0, by go_num, by omega, by omega, HB4⟩
  case round =>
    clear HB4 k5 lC4
    obtain ⟨k, rfl, hk, hg1, HB⟩ := hrel
    by_cases hlt : k < nL
    · have hltz : (k : Int) < (nL : Int) := by omega
      obtain ⟨b, off, x, hA, hlb, hx, q0, q1, q2, q3, q4⟩ := rdLse_at (HX.out.keep HB.out) (k := k) (by rw [HNL.out]; exact hlt)
      have hxn := HCG.out x (List.mem_of_getElem? hx)
      have HAA := Lib.hid hA
      subst hA
      have HBn := Lib.hid (HB.out.trans (((Below.refl wr.heap.size wr).alloc (Nat.le_refl _) (.cells #[.int .i64 x.num, .int .i64 x.chg, .int .i64 x.amp, .int .i64 x.frm, .int .i64 x.tck] 96)).mono HB.out.size))
      clear hx HB
      go_wp2_with fail
      go_roundg (nL - (k + 1))
      case measure => omega
      case rel => exact ⟨k + 1, by go_num, by omega, by omega, HBn⟩
    · have hltz : ¬ (k : Int) < (nL : Int) := by omega
      have k3 := (HC.out.keep HB.out).k3
      have lC4 : C < wr.heap.size := zb k3
      have HBw := HB
      clear HB
      go_wp2_with fail
      go_loopg [84] (n + 1) (fun g2 v84 wr => ∃ k : Nat, v84 = .int .i64 k ∧ k ≤ n ∧ n - k ≤ g2 ∧ Hid (Below w.heap.size w wr))
      case atStart => exact ⟨0, by go_num, by omega, by omega, HBw⟩
      case round =>
        clear k3 lC4 HBw hltz hlt hk hg1
        obtain ⟨k, rfl, hk, hg1, HB⟩ := hrel
        by_cases hlt : k < n
        · have hltz : (k : Int) < (n : Int) := by omega
          obtain ⟨g0, g1, g2', g3, g4, g5, g6, g7⟩ := (HCH.out.keep HB.out) k hlt
          have lC : bC < wr.heap.size := zb g0
          obtain ⟨WA, hWA⟩ : ∃ W, W = wr.alloc (.cells #[.string (nmF s k), .int .i64 0, .int .i64 1, .int .i64 6, .int .i64 32, .int .i64 2, .int .i64 0, .int .i64 0] 59) := ⟨_, rfl⟩
          obtain ⟨A, hA⟩ : ∃ A, A = wr.heap.size := ⟨_, rfl⟩
          have hbA : Below wr.heap.size wr WA := by rw [hWA]; exact (Below.refl _ _).alloc (Nat.le_refl _) _
          have z0 : WA.cell? ⟨A, 0, none⟩ = some (.string (nmF s k)) := by rw [hWA, hA]; go_simp
          have z1 : WA.cell? ⟨A, 1, none⟩ = some (.int .i64 0) := by rw [hWA, hA]; go_simp
          have z2 : WA.cell? ⟨A, 2, none⟩ = some (.int .i64 1) := by rw [hWA, hA]; go_simp
          have z3 : WA.cell? ⟨A, 3, none⟩ = some (.int .i64 6) := by rw [hWA, hA]; go_simp
          have z4 : WA.cell? ⟨A, 4, none⟩ = some (.int .i64 32) := by rw [hWA, hA]; go_simp
          have z5 : WA.cell? ⟨A, 5, none⟩ = some (.int .i64 2) := by rw [hWA, hA]; go_simp
          have z6 : WA.cell? ⟨A, 6, none⟩ = some (.int .i64 0) := by rw [hWA, hA]; go_simp
          have z7 : WA.cell? ⟨A, 7, none⟩ = some (.int .i64 0) := by rw [hWA, hA]; go_simp
          have hBA := below_then HB.out hbA
          have k6 := (HC.out.keep hBA).k6
          obtain ⟨d0, d1, d2, d3⟩ := HD.out.keep hBA k hlt
          obtain ⟨r0, r1, _⟩ := HRM.out.keep hBA k hlt
          have HBA := Lib.hid hBA
          have HWA := Lib.hid (And.intro hWA.symm hA.symm)
          clear hbA hWA hA hBA
          go_upto_region 16 with (fail)
          try simp only [World.size_alloc]
          rw [HWA.out.1, HWA.out.2]
          clear HWA g0 g1 g2' g3 g4 g5 g6 g7 lC HB
          refine region_z (S := fun w' => Below WA.heap.size WA w') [] (by kernel_rfl) ((Below.refl _ _).drew) (fun hHeld => ?_)
          refine zt (i := 0) (v := .agg #[.string (nmF s k), .int .i64 0, .int .i64 1, .int .i64 6, .int .i64 32, .int .i64 2, .int .i64 0, .int .i64 0]) [] (fun w' hSw => ?_) hHeld ?_
          · have z0' := (hSw.cell (zb z0)).trans z0
            have lz0 := zb z0'
            dsimp only at lz0
            have z1' := (hSw.cell (zb z1)).trans z1
            have lz1 := zb z1'
            dsimp only at lz1
            have z2' := (hSw.cell (zb z2)).trans z2
            have lz2 := zb z2'
            dsimp only at lz2
            have z3' := (hSw.cell (zb z3)).trans z3
            have lz3 := zb z3'
            dsimp only at lz3
            have z4' := (hSw.cell (zb z4)).trans z4
            have lz4 := zb z4'
            dsimp only at lz4
            have z5' := (hSw.cell (zb z5)).trans z5
            have lz5 := zb z5'
            dsimp only at lz5
            have z6' := (hSw.cell (zb z6)).trans z6
            have lz6 := zb z6'
            dsimp only at lz6
            have z7' := (hSw.cell (zb z7)).trans z7
            have lz7 := zb z7'
            dsimp only at lz7
            clear hHeld hSw
            go_simp
          simp only [Act.put, zl0, zl1, zl2, zl3, zl4, zl5]
          refine zt (i := 1) (v := .slice (some ⟨bR, oR, none⟩) n cR) [] (fun w' hSw => ?_) hHeld ?_
          · clear hHeld hSw
            go_simp
          simp only [Act.put, zl0, zl1, zl2, zl3, zl4, zl5]
          refine zt (i := 2) (v := .int .i64 (k : Nat)) [] (fun w' hSw => ?_) hHeld ?_
          · clear hHeld hSw
            go_simp
          simp only [Act.put, zl0, zl1, zl2, zl3, zl4, zl5]
          refine zt (i := 3) (v := .pointer (some ⟨bR, oR + k * 2, none⟩)) [] (fun w' hSw => ?_) hHeld ?_
          · clear hHeld hSw
            go_simp
          simp only [Act.put, zl0, zl1, zl2, zl3, zl4, zl5]
          refine zt (i := 4) (v := .agg #[.int .i64 (rs k).amp, .int .i64 (rs k).snc]) [] (fun w' hSw => ?_) hHeld ?_
          · have r0' := (hSw.cell (zb r0)).trans r0
            have lr0 := zb r0'
            dsimp only at lr0
            have r1' := (hSw.cell (zb r1)).trans r1
            have lr1 := zb r1'
            dsimp only at lr1
            clear hHeld hSw
            go_simp
          simp only [Act.put, zl0, zl1, zl2, zl3, zl4, zl5]
          refine zo 5 (fun K' hK => ?_)
          go_simp
          refine (rmValid_ok (nmF s k) (rs k) _ (HRM.out k hlt).2.2).mono ?_
          rintro e wk ⟨rfl, hbk⟩
          refine hK.out _ _ ?_ (fun hHeld' => ?_)
          · exact hHeld.trans (hbk.mono hHeld.size)
          clear hK K' hHeld hbk
          have hHeld := hHeld'
          clear hHeld'
          try simp only [Act.put, zl0, zl1, zl2, zl3, zl4, zl5]
          refine zt (i := 6) (v := .bool false) [] (fun w' hSw => ?_) hHeld ?_
          · clear hHeld hSw
            go_simp
          simp only [Act.put, zl0, zl1, zl2, zl3, zl4, zl5]
          refine zt (i := 7) (v := .bool false) [] (fun w' hSw => ?_) hHeld ?_
          · clear hHeld hSw
            go_simp
          simp only [Act.put, zl0, zl1, zl2, zl3, zl4, zl5]
          refine zt (i := 8) (v := .pointer (some ⟨C, 0, none⟩)) [] (fun w' hSw => ?_) hHeld ?_
          · clear hHeld hSw
            go_simp
          simp only [Act.put, zl0, zl1, zl2, zl3, zl4, zl5]
          refine zt (i := 9) (v := .pointer (some ⟨C, 0, none⟩)) [] (fun w' hSw => ?_) hHeld ?_
          · clear hHeld hSw
            go_simp
          simp only [Act.put, zl0, zl1, zl2, zl3, zl4, zl5]
          refine zt (i := 10) (v := .pointer (some ⟨C, 6, none⟩)) [] (fun w' hSw => ?_) hHeld ?_
          · clear hHeld hSw
            go_simp
          simp only [Act.put, zl0, zl1, zl2, zl3, zl4, zl5]
          refine zt (i := 11) (v := .slice (some ⟨bD, oD, none⟩) n cD) [] (fun w' hSw => ?_) hHeld ?_
          · have k6' := (hSw.cell (zb k6)).trans k6
            have lk6 := zb k6'
            dsimp only at lk6
            clear hHeld hSw
            go_simp
          simp only [Act.put, zl0, zl1, zl2, zl3, zl4, zl5]
          refine zt (i := 12) (v := .int .i64 (k : Nat)) [] (fun w' hSw => ?_) hHeld ?_
          · clear hHeld hSw
            go_simp
          simp only [Act.put, zl0, zl1, zl2, zl3, zl4, zl5]
          refine zt (i := 13) (v := .pointer (some ⟨bD, oD + k * 4, none⟩)) [] (fun w' hSw => ?_) hHeld ?_
          · clear hHeld hSw
            go_simp
          simp only [Act.put, zl0, zl1, zl2, zl3, zl4, zl5]
          refine zt (i := 14) (v := .agg #[.bool (wa k), .int .i64 0, .int .i64 500, .int .i64 1]) [] (fun w' hSw => ?_) hHeld ?_
          · have d0' := (hSw.cell (zb d0)).trans d0
            have ld0 := zb d0'
            dsimp only at ld0
            have d1' := (hSw.cell (zb d1)).trans d1
            have ld1 := zb d1'
            dsimp only at ld1
            have d2' := (hSw.cell (zb d2)).trans d2
            have ld2 := zb d2'
            dsimp only at ld2
            have d3' := (hSw.cell (zb d3)).trans d3
            have ld3 := zb d3'
            dsimp only at ld3
            clear hHeld hSw
            go_simp
          simp only [Act.put, zl0, zl1, zl2, zl3, zl4, zl5]
          refine zo 15 (fun K' hK => ?_)
          go_simp
          refine (coDemand_ok (wa k) _).mono ?_
          rintro e wk ⟨rfl, hbk⟩
          refine hK.out _ _ ?_ (fun hHeld' => ?_)
          · exact hHeld.trans (hbk.mono hHeld.size)
          clear hK K' hHeld hbk
          have hHeld := hHeld'
          clear hHeld'
          try simp only [Act.put, zl0, zl1, zl2, zl3, zl4, zl5]
          refine zt (i := 16) (v := .bool false) [] (fun w' hSw => ?_) hHeld ?_
          · clear hHeld hSw
            go_simp
          simp only [Act.put, zl0, zl1, zl2, zl3, zl4, zl5]
          refine zt (i := 17) (v := .bool false) [] (fun w' hSw => ?_) hHeld ?_
          · clear hHeld hSw
            go_simp
          simp only [Act.put, zl0, zl1, zl2, zl3, zl4, zl5]
          refine wpAnyZ_done (by kernel_rfl) ?_ _
          have HBn := Lib.hid (below_then HBA.out hHeld)
          clear hHeld z0 z1 z2 z3 z4 z5 z6 z7 k6 d0 d1 d2 d3 r0 r1 HBA
          go_wp2_with fail
          go_roundg (n - (k + 1))
          case measure => omega
          case rel => exact ⟨k + 1, by go_num, by omega, by omega, HBn⟩
        · have hltz : ¬ (k : Int) < (n : Int) := by omega
          go_wp2_with fail
          go_ret
          exact ⟨rfl, HB.out⟩
end Go.Proofs.YtkbbapefgifagaaGreatDoor
/-
Two controllers: slices.Backward over leases.
-/
namespace Go.Proofs.YtkbbapefgifagaaGreatDoor
open Go.RowKit Go.Shelf
set_option linter.unusedVariables false
set_option linter.unusedSimpArgs false
def lseV (x : Lse) : Value := .agg #[.int .i64 x.num, .int .i64 x.chg, .int .i64 x.amp, .int .i64 x.frm, .int .i64 x.tck]
abbrev BlAt (ls : List Lse) : Type := { k : Nat // k < ls.length }
def blL (ls : List Lse) (x : BlAt ls) : Lse := ls[x.1]'x.2
def blV (ls : List Lse) (x : BlAt ls) : Value := lseV (blL ls x)
set_option maxRecDepth 100000 in
theorem sBackL_any (aL : Option Addr) (nL cL : Nat) (w : World) : Calls Tryz.prog 74 #[.slice aL nL cL] w fun e w' =>
    e = .returned (.func (.func 93) #[] #[.pointer (some ⟨w.heap.size, 0, none⟩)]) ∧ w' = w.alloc (.cells #[.slice aL nL cL] 40) := by
  go_enter Tryz.func74, Tryz.ntmps74
  go_wp2
  go_ret
  exact ⟨rfl, rfl⟩
set_option maxRecDepth 100000 in
set_option maxHeartbeats 4000000 in
theorem sBackL1_in (m : Nat) (hm : 1 ≤ m) (l bs B : Nat) (ls : List Lse) (a1 : Option Addr) (n1 c1 : Nat) (hn1 : ls.length = n1) (hm1 : n1 ≤ 1000000) (hA : ∀ a, a1 = some a → ls ≠ [] → a.block < B) (J Jx : List (BlAt ls) → World → Prop) (W : World)
    (hJ : AbidesFrom W.heap.size J)
    (hY : ∀ (pre : List (BlAt ls)) (x : BlAt ls) W1, J pre W1 → pre.length < n1 → YieldAt Fence.wide (m - 1) Tryz.prog l #[.int .i64 (x.1 : Nat), blV ls x] W1 fun e W' =>
      (e = .returned (.bool true) ∧ J (pre ++ [x]) W' ∧ KpW B bs W1 W') ∨ (e = .returned (.bool false) ∧ Jx (pre ++ [x]) W'))
    (hbs : W.cell? ⟨bs, 0, none⟩ = some (.slice a1 n1 c1)) (hR : Rd 5 encLse W a1 ls) (h0 : J [] W) :
    CallsIn Fence.wide m Tryz.prog 93 #[.func (.yield l) #[] #[], .pointer (some ⟨bs, 0, none⟩)] W fun e W' => (∃ v, e = .returned v) ∧
      ((∃ ys : List (BlAt ls), (ys.length = n1) ∧ J ys W') ∨ (∃ pre : List (BlAt ls), Jx pre W')) := by
  have HY := Lib.hid hY
  have HJ := Lib.hid hJ
  have HR := Lib.hid hR
  have HA := Lib.hid hA
  have HN := Lib.hid hn1
  clear hY hJ hR hA hn1
  refine callsIn_of_wp Tryz.func93 rfl trivial ?_ rfl
  simp only [Tryz.ntmps93, List.size_toArray, List.length_cons, List.length_nil, Nat.reduceAdd, Nat.reduceSub, Array.replicate_succ, Array.replicate_zero, List.push_toArray, List.append_toArray, List.nil_append, List.cons_append]
  have hw0 : IntKind.i64.wrap ((n1 : Int) - 1) = (n1 : Int) - 1 := IntWalk.i64_in _ (by omega)
  gi_wp2
  gi_loopw [3] (fun i wr => ∃ (c : Int) (pre : List (BlAt ls)), i = .int .i64 c ∧ -1 ≤ c ∧ c < (n1 : Int) ∧ Hid ((pre.length : Int) + c + 1 = n1) ∧ Hid (J pre wr) ∧ wr.cell? ⟨bs, 0, none⟩ = some (.slice a1 n1 c1) ∧ Hid (Rd 5 encLse wr a1 ls)) (fun i _ => (intOf i + 1).toNat)
  case atStart => exact ⟨(n1 : Int) - 1, [], rfl, by omega, by omega, Lib.hid (by simp), Lib.hid h0, hbs, HR⟩
  case round =>
    clear hbs h0 HR hw0
    obtain ⟨c, pre, rfl, hlo, hhi, Hpre, HJp, q0, HR⟩ := hrel
    by_cases hlt : 0 ≤ c
    · obtain ⟨k, rfl⟩ := Int.eq_ofNat_of_zero_le hlt
      have hk : k < ls.length := by rw [HN.out]; omega
      have hkz : (k : Int) < (n1 : Int) := by omega
      obtain ⟨b, off, g, hA1, hbl, hgx, d0, d1, d2, d3, d4⟩ := rdLse_at HR.out hk
      have hpl : pre.length < n1 := by have := Hpre.out; omega
      obtain ⟨fn, tmps, assign, body, hy, hRd⟩ := HY.out pre ⟨k, hk⟩ wr HJp.out hpl
      have hbv : blV ls ⟨k, hk⟩ = lseV g := by
        unfold blV blL
        rw [List.getElem?_eq_getElem hk] at hgx
        injection hgx with hgx
        dsimp only
        rw [hgx]
      rw [hbv] at hy
      unfold lseV at hy
      dsimp only at hy
      have hws : IntKind.i64.wrap ((k : Int) - 1) = (k : Int) - 1 := IntWalk.i64_in _ (by omega)
      have HPL : Hid (((pre ++ [(⟨k, hk⟩ : BlAt ls)]).length : Int) + ((k : Int) - 1) + 1 = n1) := Lib.hid (by rw [List.length_append]; have := Hpre.out; simp; omega)
      clear hgx hbv
      subst hA1
      gi_wp2
      refine hRd.mono ?_
      rintro e' W3 (⟨rfl, hJ3, hk3⟩ | ⟨rfl, hJx3⟩)
      · have p0 := (World.cell?_of_block (a := ⟨bs, 0, none⟩) hk3.s1).trans q0
        have HR3 : Hid (Rd 5 encLse W3 (some ⟨b, off, none⟩) ls) := Lib.hid (HR.out.belowB hk3.bel (fun a ha => HA.out a ha (by intro e; rw [e] at hk; simp at hk)))
        have HJ3 := Lib.hid hJ3
        clear hJ3 d0 d1 d2 d3 d4 q0 hbl
        gi_wp2
        go_roundw
        case rel => exact ⟨(k : Int) - 1, _, rfl, by omega, by omega, HPL, HJ3, p0, HR3⟩
        case measure => (simp [intOf]; try omega)
      · gi_wp2
        refine bodyPost_ret (results_none rfl _ _ _) rfl ?_
        exact ⟨⟨_, rfl⟩, .inr ⟨_, hJx3⟩⟩
    · have hltz : ¬ 0 ≤ c := hlt
      have HE : Hid (pre.length = n1) := Lib.hid (by have := Hpre.out; omega)
      gi_wp2
      go_end0
      exact ⟨⟨_, rfl⟩, .inl ⟨pre, HE.out, HJp.out⟩⟩
/-- ONE RULE for every loop over the conductors from the last one on. -/
theorem range_bkl {ls : List Lse} {a1 : Option Addr} {n1 c1 : Nat} (hn1 : ls.length = n1) (hm1 : n1 ≤ 1000000) {g : Operand} {p q : Tmp} {assign body : Code} {Q : Exit → Act → World → Prop} {a : Act} {w : World} (bs B : Nat)
    (hg : a.eval g = .func (.func 93) #[] #[.pointer (some ⟨bs, 0, none⟩)]) (hbs : w.cell? ⟨bs, 0, none⟩ = some (.slice a1 n1 c1)) (hR : Rd 5 encLse w a1 ls) (hA : ∀ a, a1 = some a → ls ≠ [] → a.block < B) (hB : B ≤ w.heap.size)
    (I : List (BlAt ls) → World → Prop) (Ix : Code → List (BlAt ls) → World → Prop) (hI : ∀ pre W W', I pre W → Nc w.heap.size W W' → I pre W') (hIx : ∀ c pre W W', Ix c pre W → Nc w.heap.size W W' → Ix c pre W') (h0 : I [] w) (Ax : BlAt ls → Act → World → Prop) (hAx : ∀ x a' W W', Ax x a' W → Nc w.heap.size W W' → Ax x a' W')
    (hassign : ∀ (l : Nat) (pre : List (BlAt ls)) (x : BlAt ls) (W : World) (K : Act → World → Prop), I pre W → (∀ a' W', KeepsFrom w.heap.size W W' → KpW B bs W W' → I pre W' → Ax x a' W' → K a' W') → assign.wpIn (Fence.wide.inRound l) 3 Tryz.prog (Exit.then K (fun _ _ _ => False)) { tmps := (a.tmps.setIfInBounds p (.int .i64 (x.1 : Nat))).setIfInBounds q (blV ls x), defers := [] } W)
    (hbody : ∀ (l : Nat) (pre : List (BlAt ls)) (x : BlAt ls) (a' : Act) (W : World), I pre W → Ax x a' W → pre.length < n1 → body.wpIn (Fence.wide.inRound l) 3 Tryz.prog (ownPostG w.heap.size (KpW B bs) I Ix (pre ++ [x]) W) a' W)
    (hdone : ∀ (D : Nat) (ys : List (BlAt ls)) (W : World), w.heap.size ≤ D → ys.length = n1 → I ys W → W.heap[D]? = some (.deferred (some [])) → Q .normal { a with defers := { target := .collected D, args := #[] } :: a.defers } W)
    (hstop : ∀ (D : Nat) (c : Code) (pre : List (BlAt ls)) (W : World), w.heap.size ≤ D → Ix c pre W → W.heap[D]? = some (.deferred (some [])) → c.wpIn Fence.wide 5 Tryz.prog Q { a with defers := { target := .collected D, args := #[] } :: a.defers } W) :
    (Code.rangeFunc g #[p, q] assign body).wp Tryz.prog Q a w := by
  have lbs := World.block_lt_of_cell? w _ hbs
  dsimp only at lbs
  refine (wpIn_wide (n := 5)).1 ?_
  refine wpIn_rangeFunc_ownH (F := Fence.wide) (α := BlAt ls) rfl (by omega) (gf := 93) (lb := #[.pointer (some ⟨bs, 0, none⟩)]) hg trivial (enters_of Tryz.func93 (by kernel_rfl) rfl)
    (encs := fun x => #[.int .i64 (x.1 : Nat), blV ls x]) (Kp := KpW B bs) (S := fun (ys : List (BlAt ls)) => ys.length = n1) (Sp := fun (ys : List (BlAt ls)) => True) (N := n1) (w0 := w)
    (fun l J Jx W' hW' hJ _ hY h0 => (sBackL1_in 4 (by omega) l bs B ls a1 n1 c1 hn1 hm1 hA J Jx W' hJ hY ((hW'.cell (p := ⟨bs, 0, none⟩) lbs).trans hbs) (hR.keep hW') h0).mono (fun e W' h => ⟨h.1, h.2.elim .inl (fun ⟨pre, hj⟩ => .inr ⟨pre, trivial, hj⟩)⟩))
    ?hKt ?hKb (Below.refl _ _) (fun _ => rfl) I Ix ?hI ?hIx h0 Ax ?hAx ?assign ?body ?done (fun D c pre W hD _ hi hdf => hstop D c pre W hD hi hdf)
  case hKt => exact fun h1 h2 => ⟨h1.bel.trans h2.bel, h2.s1.trans h1.s1⟩
  case hKb =>
    intro W' l o o' hl ho _ _
    exact ⟨⟨rfl, rfl, rfl, by simp, fun k hk => World.putObj_heap_other (by omega)⟩, World.putObj_heap_other (by omega)⟩
  case hI => exact fun pre W1 W2 row h hg hr => hI pre W1 W2 h ⟨row, hg, hr⟩
  case hIx => exact fun c pre W1 W2 row h hg hr => hIx c pre W1 W2 h ⟨row, hg, hr⟩
  case hAx => exact fun x a' _ W1 W2 row h hg hr => hAx x a' W1 W2 h ⟨row, hg, hr⟩
  case assign =>
    intro l pre x W1 K hi hK
    have ht : (#[p, q].zip #[Value.int .i64 (x.1 : Nat), blV ls x]).foldl (fun t (p, v) => t.setIfInBounds p v) a.tmps = (a.tmps.setIfInBounds p (.int .i64 (x.1 : Nat))).setIfInBounds q (blV ls x) := by simp
    rw [ht]
    exact hassign l pre x W1 K hi hK
  case body =>
    intro l pre x a' W1 hl hlr hi hx hlen
    exact hbody l pre x a' W1 hi hx hlen
  case done => exact fun D ys W1 hD hS hi hdf => hdone D ys W1 hD hS hi hdf
end Go.Proofs.YtkbbapefgifagaaGreatDoor
