/-
Two controllers: control: bases, targets, offers.
-/
import Derived.Test.YtkbbapefgifagaaGreatDoorGTwY
namespace Go.Proofs.YtkbbapefgifagaaGreatDoor
open Go.RowKit
set_option linter.unusedVariables false
set_option linter.unusedSimpArgs false
/-- A decision in memory. -/
structure DcC (C n1 c1 n2 c2 n3 c3 bC oC c4 n5 c5 nL cL bD oD cD bO oO cO n : Nat) (a1 a2 a3 a5 aL : Option Addr) (tick : Int) (W : World) : Prop where
  k0 : W.cell? ⟨C, 0, none⟩ = some (.slice a1 n1 c1)
  k1 : W.cell? ⟨C, 1, none⟩ = some (.slice a2 n2 c2)
  k2 : W.cell? ⟨C, 2, none⟩ = some (.slice a3 n3 c3)
  k3 : W.cell? ⟨C, 3, none⟩ = some (.slice (some ⟨bC, oC, none⟩) n c4)
  k4 : W.cell? ⟨C, 4, none⟩ = some (.slice a5 n5 c5)
  k5 : W.cell? ⟨C, 5, none⟩ = some (.slice aL nL cL)
  k6 : W.cell? ⟨C, 6, none⟩ = some (.slice (some ⟨bD, oD, none⟩) n cD)
  k7 : W.cell? ⟨C, 7, none⟩ = some (.int .i64 tick)
  k8 : W.cell? ⟨C, 8, none⟩ = some (.slice (some ⟨bO, oO, none⟩) n cO)
theorem DcC.keep {C n1 c1 n2 c2 n3 c3 bC oC c4 n5 c5 nL cL bD oD cD bO oO cO n : Nat} {a1 a2 a3 a5 aL : Option Addr} {tick : Int} {W W' : World} (h : DcC C n1 c1 n2 c2 n3 c3 bC oC c4 n5 c5 nL cL bD oD cD bO oO cO n a1 a2 a3 a5 aL tick W) (hb : Below W.heap.size W W') : DcC C n1 c1 n2 c2 n3 c3 bC oC c4 n5 c5 nL cL bD oD cD bO oO cO n a1 a2 a3 a5 aL tick W' :=
  ⟨(hb.cell (zb h.k0)).trans h.k0, (hb.cell (zb h.k1)).trans h.k1, (hb.cell (zb h.k2)).trans h.k2, (hb.cell (zb h.k3)).trans h.k3, (hb.cell (zb h.k4)).trans h.k4, (hb.cell (zb h.k5)).trans h.k5, (hb.cell (zb h.k6)).trans h.k6, (hb.cell (zb h.k7)).trans h.k7, (hb.cell (zb h.k8)).trans h.k8⟩
/-- The chargers' cells. -/
def ChC (bC oC n : Nat) (s : GSite) (W : World) : Prop := ∀ i, i < n → W.cell? ⟨bC, oC + i * 8, none⟩ = some (.string (nmF s i)) ∧ W.cell? ⟨bC, oC + i * 8 + 1, none⟩ = some (.int .i64 0) ∧ W.cell? ⟨bC, oC + i * 8 + 2, none⟩ = some (.int .i64 1) ∧ W.cell? ⟨bC, oC + i * 8 + 3, none⟩ = some (.int .i64 6) ∧ W.cell? ⟨bC, oC + i * 8 + 4, none⟩ = some (.int .i64 32) ∧ W.cell? ⟨bC, oC + i * 8 + 5, none⟩ = some (.int .i64 2) ∧ W.cell? ⟨bC, oC + i * 8 + 6, none⟩ = some (.int .i64 0) ∧ W.cell? ⟨bC, oC + i * 8 + 7, none⟩ = some (.int .i64 0)
theorem ChC.keep {bC oC n : Nat} {s : GSite} {W W' : World} (h : ChC bC oC n s W) (hb : Below W.heap.size W W') : ChC bC oC n s W' := fun i hi => by
  obtain ⟨h0, h1, h2, h3, h4, h5, h6, h7⟩ := h i hi
  exact ⟨(hb.cell (zb h0)).trans h0, (hb.cell (zb h1)).trans h1, (hb.cell (zb h2)).trans h2, (hb.cell (zb h3)).trans h3, (hb.cell (zb h4)).trans h4, (hb.cell (zb h5)).trans h5, (hb.cell (zb h6)).trans h6, (hb.cell (zb h7)).trans h7⟩
set_option maxRecDepth 100000 in
set_option maxHeartbeats 8000000 in
theorem coBases_ok (C n1 c1 n2 c2 n3 c3 bC oC c4 n5 c5 nL cL bD oD cD bO oO cO n : Nat) (a1 a2 a3 a5 aL : Option Addr) (tick : Int) (s : GSite) (w : World) (HC : Hid (DcC C n1 c1 n2 c2 n3 c3 bC oC c4 n5 c5 nL cL bD oD cD bO oO cO n a1 a2 a3 a5 aL tick w)) (HCH : Hid (ChC bC oC n s w)) (hn : n ≤ 4) :
    Calls Tryz.prog 66 #[.pointer (some ⟨C, 0, none⟩)] w fun e w' => ∃ G, e = .returned (.slice (some ⟨G, 0, none⟩) n n) ∧ w.heap.size ≤ G ∧ Own w' G 3 n (fun _ => .int .i64 0) ∧ Below w.heap.size w w' := by
  obtain ⟨W1, hmk, hown, hb1, hsz⟩ := mk_ints n (by omega) w
  obtain ⟨G, hG⟩ : ∃ G, G = w.heap.size := ⟨_, rfl⟩
  rw [← hG] at hmk hown
  have HOW := Lib.hid hown
  have HB1 := Lib.hid hb1
  have HG := Lib.hid hG
  have k3 := HC.out.k3
  have k3' := (hb1.cell (zb k3)).trans k3
  have lC0 : C < w.heap.size := zb k3
  have lC1 : C < W1.heap.size := zb k3'
  clear hown hb1 hsz hG
  go_enter Tryz.func66, Tryz.ntmps66
  go_wp2_with fail
  go_loopg [19] (n + 1) (fun g1 v19 wr => ∃ k : Nat, v19 = .int .i64 k ∧ k ≤ n ∧ n - k ≤ g1 ∧ Hid (Own wr G 3 n (fun _ => .int .i64 0)) ∧ Hid (Below w.heap.size w wr))
  case atStart => exact ⟨0, by go_num, by omega, by omega, HOW, HB1⟩
  case round =>
    clear HOW HB1 hmk k3 k3' lC0 lC1
    obtain ⟨k, rfl, hk, hg1, HO, HB⟩ := hrel
    by_cases hlt : k < n
    · have hltz : (k : Int) < (n : Int) := by omega
      obtain ⟨g0, g1, g2', g3, g4, g5, g6, g7⟩ := (HCH.out.keep HB.out) k hlt
      have lC : bC < wr.heap.size := zb g0
      obtain ⟨WA, hWA⟩ : ∃ W, W = wr.alloc (.cells #[.string (nmF s k), .int .i64 0, .int .i64 1, .int .i64 6, .int .i64 32, .int .i64 2, .int .i64 0, .int .i64 0] 59) := ⟨_, rfl⟩
      obtain ⟨A, hA⟩ : ∃ A, A = wr.heap.size := ⟨_, rfl⟩
      have hbA : Below wr.heap.size wr WA := by rw [hWA]; exact (Below.refl _ _).alloc (Nat.le_refl _) _
      have z6 : WA.cell? ⟨A, 6, none⟩ = some (.int .i64 0) := by rw [hWA, hA]; go_simp
      have hOA := HO.out.keep hbA HO.out.lt
      have c := hOA.cell hlt
      have f := hOA.frozen k
      have l := hOA.lt
      have lA : A < WA.heap.size := zb z6
      have HOn := Lib.hid ((hOA.set k (.int .i64 0)).congr (f' := fun _ => .int .i64 0) (fun j hj => by split <;> rfl))
      have HBn := Lib.hid ((below_then HB.out hbA).setCell (p := ⟨G, k, none⟩) (by rw [HG.out]; exact Nat.le_refl _) (.int .i64 0))
      have HWA := Lib.hid (And.intro hWA.symm hA.symm)
      clear hbA hWA hA hOA HO
      go_upto_region 5 with (fail)
      try simp only [World.size_alloc]
      rw [HWA.out.1, HWA.out.2]
      clear HWA g0 g1 g2' g3 g4 g5 g6 g7 lC HB
      go_wp2_with fail
      go_roundg (n - (k + 1))
      case measure => omega
      case rel => exact ⟨k + 1, by go_num, by omega, by omega, HOn, HBn⟩
    · have hltz : ¬ (k : Int) < (n : Int) := by omega
      go_wp2_with fail
      go_ret
      exact ⟨G, rfl, by rw [HG.out]; exact Nat.le_refl _, HO.out, HB.out⟩
set_option maxRecDepth 100000 in
set_option maxHeartbeats 8000000 in
theorem coTargets_ok (C n1 c1 n2 c2 n3 c3 bC oC c4 n5 c5 nL cL bD oD cD bO oO cO n : Nat) (a1 a2 a3 a5 aL : Option Addr) (tick : Int) (n' : Nat) (s : GSite) (cap : Int) (wa : Nat → Bool) (od : Nat → Int) (w : World) (HC : Hid (DcC C n1 c1 n2 c2 n3 c3 bC oC c4 n5 c5 nL cL bD oD cD bO oO cO n a1 a2 a3 a5 aL tick w)) (HS : Hid (RdSite w a1 a2 a3 (some ⟨bC, oC, none⟩) a5 n1 n2 n3 n n5 s)) (HP : Hid (ParkS s n cap)) (HD : Hid (DmOk bD oD n wa w))
    (HOD : Hid (∀ i, i < n → w.cell? ⟨bO, oO + i, none⟩ = some (.int .i64 (od i)))) (HODB : Hid (∀ i, i < n → 0 ≤ od i ∧ od i < (n : Nat))) (HODI : Hid (∀ i j, i < j → j < n → od i ≠ od j)) :
    Calls Tryz.prog 65 #[.pointer (some ⟨C, 0, none⟩)] w (SrPost n (fun _ => 0) (fun i => if wa i then 32 else 0) cap w) := by
  have hn : n ≤ 4 := HP.out.n4
  have HCH : Hid (ChC bC oC n s w) := Lib.hid (fun i hi => park_cells HS.out.r4 HS.out.l4 HP.out hi)
  obtain ⟨W1, hmk, hown, hb1, hsz⟩ := mk_ints n (by omega) w
  obtain ⟨G, hG⟩ : ∃ G, G = w.heap.size := ⟨_, rfl⟩
  rw [← hG] at hmk hown
  have HOW := Lib.hid hown
  have HB1 := Lib.hid hb1
  have HG := Lib.hid hG
  have k3 := HC.out.k3
  have k3' := (hb1.cell (zb k3)).trans k3
  have lC0 : C < w.heap.size := zb k3
  have lC1 : C < W1.heap.size := zb k3'
  clear hown hb1 hsz hG
  go_enter Tryz.func65, Tryz.ntmps65
  go_wp2_with fail
  go_loopg [20] (n + 1) (fun g1 v20 wr => ∃ k : Nat, v20 = .int .i64 k ∧ k ≤ n ∧ n - k ≤ g1 ∧ Hid (Own wr G 3 n (fun j => if j < k then .int .i64 (if wa j then 32 else 0) else .int .i64 0)) ∧ Hid (Below w.heap.size w wr))
  case atStart => exact ⟨0, by go_num, by omega, by omega, Lib.hid (HOW.out.congr (fun j hj => by rw [if_neg (by omega)])), HB1⟩
  case round =>
    clear HOW HB1 hmk k3 k3' lC0 lC1
    obtain ⟨k, rfl, hk, hg1, HO, HB⟩ := hrel
    by_cases hlt : k < n
    · have hltz : (k : Int) < (n : Int) := by omega
      obtain ⟨g0, g1, g2', g3, g4, g5, g6, g7⟩ := (HCH.out.keep HB.out) k hlt
      have lC : bC < wr.heap.size := zb g0
      obtain ⟨WA, hWA⟩ : ∃ W, W = wr.alloc (.cells #[.string (nmF s k), .int .i64 0, .int .i64 1, .int .i64 6, .int .i64 32, .int .i64 2, .int .i64 0, .int .i64 0] 59) := ⟨_, rfl⟩
      obtain ⟨A, hA⟩ : ∃ A, A = wr.heap.size := ⟨_, rfl⟩
      have hbA : Below wr.heap.size wr WA := by rw [hWA]; exact (Below.refl _ _).alloc (Nat.le_refl _) _
      have z4 : WA.cell? ⟨A, 4, none⟩ = some (.int .i64 32) := by rw [hWA, hA]; go_simp
      have hOA := HO.out.keep hbA HO.out.lt
      have c := hOA.cell hlt
      have f := hOA.frozen k
      have l := hOA.lt
      have lA : A < WA.heap.size := zb z4
      have hBA := below_then HB.out hbA
      have k6 := (HC.out.keep hBA).k6
      have lC0 : C < WA.heap.size := zb k6
      have d0 := (HD.out.keep hBA k hlt).1
      have lD : bD < WA.heap.size := zb d0
      have HBA := Lib.hid hBA
      have HOA := Lib.hid hOA
      have HWA := Lib.hid (And.intro hWA.symm hA.symm)
      clear hbA hWA hA hOA HO hBA
      go_upto_region 5 with (fail)
      try simp only [World.size_alloc]
      rw [HWA.out.1, HWA.out.2]
      clear HWA g0 g1 g2' g3 g4 g5 g6 g7 lC HB
      obtain ⟨b, hb⟩ : ∃ b, b = wa k := ⟨_, rfl⟩
      rw [← hb] at d0
      have HWK := Lib.hid hb.symm
      clear hb
      cases b
      · have HOn := Lib.hid (HOA.out.congr (f' := fun j => if j < k + 1 then .int .i64 (if wa j then 32 else 0) else .int .i64 0) (fun j hj => by
          by_cases e : j = k
          · rw [if_neg (show ¬ j < k by omega), if_pos (show j < k + 1 by omega), e, HWK.out]; rfl
          · by_cases e2 : j < k
            · rw [if_pos e2, if_pos (show j < k + 1 by omega)]
            · rw [if_neg e2, if_neg (show ¬ j < k + 1 by omega)]))
        clear HOA
        go_wp2_with fail
        go_roundg (n - (k + 1))
        case measure => omega
        case rel => exact ⟨k + 1, by go_num, by omega, by omega, HOn, HBA⟩
      · have HOn := Lib.hid ((HOA.out.set k (.int .i64 32)).congr (f' := fun j => if j < k + 1 then .int .i64 (if wa j then 32 else 0) else .int .i64 0) (fun j hj => by
          by_cases e : j = k
          · rw [if_pos e, if_pos (show j < k + 1 by omega), e, HWK.out]; rfl
          · rw [if_neg e]
            by_cases e2 : j < k
            · rw [if_pos e2, if_pos (show j < k + 1 by omega)]
            · rw [if_neg e2, if_neg (show ¬ j < k + 1 by omega)]))
        have HBn := Lib.hid (HBA.out.setCell (p := ⟨G, k, none⟩) (by rw [HG.out]; exact Nat.le_refl _) (.int .i64 32))
        clear HOA HBA
        go_wp2_with fail
        go_roundg (n - (k + 1))
        case measure => omega
        case rel => exact ⟨k + 1, by go_num, by omega, by omega, HOn, HBn⟩
    · have hltz : ¬ (k : Int) < (n : Int) := by omega
      have hkn : k = n := by omega
      subst hkn
      have HBW := HB
      have HCW := Lib.hid (HC.out.keep HB.out)
      have HCHW := Lib.hid (HCH.out.keep HB.out)
      go_upto_region 8 with (fail)
      refine region_z (S := fun w' => Below wr.heap.size wr w') [] (by kernel_rfl) ((Below.refl _ _).drew) (fun hHeld => ?_)
      refine zt (i := 0) (v := .pointer (some ⟨C, 0, none⟩)) [] (fun w' hSw => ?_) hHeld ?_
      · clear hHeld hSw
        go_simp
      simp only [Act.put, zl0, zl1, zl2, zl3, zl4, zl5]
      refine zt (i := 1) (v := .pointer (some ⟨C, 0, none⟩)) [] (fun w' hSw => ?_) hHeld ?_
      · clear hHeld hSw
        go_simp
      simp only [Act.put, zl0, zl1, zl2, zl3, zl4, zl5]
      refine zt (i := 2) (v := .pointer (some ⟨C, 0, none⟩)) [] (fun w' hSw => ?_) hHeld ?_
      · clear hHeld hSw
        go_simp
      simp only [Act.put, zl0, zl1, zl2, zl3, zl4, zl5]
      refine zt (i := 3) (v := .agg #[.slice a1 n1 c1, .slice a2 n2 c2, .slice a3 n3 c3, .slice (some ⟨bC, oC, none⟩) k c4, .slice a5 n5 c5]) [] (fun w' hSw => ?_) hHeld ?_
      · have s0' := (hSw.cell (zb HCW.out.k0)).trans HCW.out.k0
        have ls0 := zb s0'
        dsimp only at ls0
        have s1' := (hSw.cell (zb HCW.out.k1)).trans HCW.out.k1
        have ls1 := zb s1'
        dsimp only at ls1
        have s2' := (hSw.cell (zb HCW.out.k2)).trans HCW.out.k2
        have ls2 := zb s2'
        dsimp only at ls2
        have s3' := (hSw.cell (zb HCW.out.k3)).trans HCW.out.k3
        have ls3 := zb s3'
        dsimp only at ls3
        have s4' := (hSw.cell (zb HCW.out.k4)).trans HCW.out.k4
        have ls4 := zb s4'
        dsimp only at ls4
        clear hHeld hSw
        go_simp
      simp only [Act.put, zl0, zl1, zl2, zl3, zl4, zl5]
      refine zt (i := 4) (v := .pointer (some ⟨C, 0, none⟩)) [] (fun w' hSw => ?_) hHeld ?_
      · clear hHeld hSw
        go_simp
      simp only [Act.put, zl0, zl1, zl2, zl3, zl4, zl5]
      refine zt (i := 6) (v := .slice (some ⟨G, 0, none⟩) k k) [] (fun w' hSw => ?_) hHeld ?_
      · clear hHeld hSw
        go_simp
      simp only [Act.put, zl0, zl1, zl2, zl3, zl4, zl5]
      refine zt (i := 7) (v := .pointer (some ⟨C, 0, none⟩)) [] (fun w' hSw => ?_) hHeld ?_
      · clear hHeld hSw
        go_simp
      simp only [Act.put, zl0, zl1, zl2, zl3, zl4, zl5]
      refine zt (i := 8) (v := .pointer (some ⟨C, 0, none⟩)) [] (fun w' hSw => ?_) hHeld ?_
      · clear hHeld hSw
        go_simp
      simp only [Act.put, zl0, zl1, zl2, zl3, zl4, zl5]
      refine zt (i := 9) (v := .pointer (some ⟨C, 8, none⟩)) [] (fun w' hSw => ?_) hHeld ?_
      · clear hHeld hSw
        go_simp
      simp only [Act.put, zl0, zl1, zl2, zl3, zl4, zl5]
      refine zt (i := 10) (v := .slice (some ⟨bO, oO, none⟩) k cO) [] (fun w' hSw => ?_) hHeld ?_
      · have s8' := (hSw.cell (zb HCW.out.k8)).trans HCW.out.k8
        have ls8 := zb s8'
        dsimp only at ls8
        clear hHeld hSw
        go_simp
      simp only [Act.put, zl0, zl1, zl2, zl3, zl4, zl5]
      refine zo 5 (fun K' hK => ?_)
      go_simp
      refine (coBases_ok C n1 c1 n2 c2 n3 c3 bC oC c4 n5 c5 nL cL bD oD cD bO oO cO k a1 a2 a3 a5 aL tick s _ (Lib.hid (HCW.out.keep hHeld)) (Lib.hid (HCHW.out.keep hHeld)) (by omega)).mono ?_
      rintro e wk ⟨GB, rfl, hge, hob, hbk⟩
      have HGB := Lib.hid hob
      refine hK.out _ _ ?_ (fun hHeld' => ?_)
      · exact hHeld.trans (hbk.mono hHeld.size)
      clear hK K' hHeld hbk hge hob
      have hHeld := hHeld'
      clear hHeld'
      try simp only [Act.put, zl0, zl1, zl2, zl3, zl4, zl5]
      refine zo 11 (fun K' hK => ?_)
      go_simp
      refine (spShare_ok a1 a2 a3 a5 n1 c1 n2 c2 n3 c3 c4 n5 c5 bC oC GB 0 k G 0 k bO oO cO k s cap (fun _ => 0) (fun i => if wa i then 32 else 0) od _ (Lib.hid (HS.out.keep (below_then HBW.out hHeld))) HP (Lib.hid (fun i hi => by have := HGB.out.cell hi; simpa using this)) (Lib.hid (fun i hi => by have := (HO.out.keep hHeld HO.out.lt).cell hi; rw [if_pos hi] at this; simpa using this)) (Lib.hid (fun i hi => ((below_then HBW.out hHeld).cell (zb (HOD.out i hi))).trans (HOD.out i hi))) (Lib.hid (fun i hi => by simp)) (Lib.hid (fun i hi => by split <;> omega)) HODB HODI).mono ?_
      rintro e wk ⟨G3, v, rfl, hG3, hO3, hv, hsum, hbk⟩
      have HSR := Lib.hid (And.intro (Nat.le_trans hHeld.size hG3) (And.intro hO3 (And.intro hv hsum)))
      refine hK.out _ _ ?_ (fun hHeld' => ?_)
      · exact hHeld.trans (hbk.mono hHeld.size)
      clear hK K' hHeld hbk hG3 hO3 hv hsum
      have hHeld := hHeld'
      clear hHeld'
      try simp only [Act.put, zl0, zl1, zl2, zl3, zl4, zl5]
      refine zt (i := 12) (v := .slice (some ⟨G3, 0, none⟩) k k) [] (fun w' hSw => ?_) hHeld ?_
      · clear hHeld hSw
        go_simp
      simp only [Act.put, zl0, zl1, zl2, zl3, zl4, zl5]
      refine zt (i := 13) (v := .int .i64 0) [] (fun w' hSw => ?_) hHeld ?_
      · clear hHeld hSw
        go_simp
      simp only [Act.put, zl0, zl1, zl2, zl3, zl4, zl5]
      refine zt (i := 14) (v := .slice (some ⟨G3, 0, none⟩) k k) [] (fun w' hSw => ?_) hHeld ?_
      · clear hHeld hSw
        go_simp
      simp only [Act.put, zl0, zl1, zl2, zl3, zl4, zl5]
      refine zt (i := 15) (v := .int .i64 0) [] (fun w' hSw => ?_) hHeld ?_
      · clear hHeld hSw
        go_simp
      simp only [Act.put, zl0, zl1, zl2, zl3, zl4, zl5]
      refine wpAnyZ_done (by kernel_rfl) ?_ _
      go_wp2_with fail
      refine bodyPost_ret (results_tmp2 (t := 2) (u := 3) (by kernel_rfl) _ _ _) rfl ?_
      exact ⟨G3, v, rfl, Nat.le_trans HBW.out.size HSR.out.1, HSR.out.2.1, HSR.out.2.2.1, HSR.out.2.2.2, below_then HBW.out hHeld⟩
theorem alvF_bd {l : List Lse} (h : ∀ x ∈ l, LseOk x) : ∀ i, 0 ≤ alvF l i ∧ alvF l i ≤ 80 := by
  have key : ∀ (l : List Lse) (f : Nat → Int), (∀ x ∈ l, LseOk x) → (∀ i, 0 ≤ f i ∧ f i ≤ 80) → ∀ i, 0 ≤ l.foldl (fun f x => updF f x.chg.toNat x.amp) f i ∧ l.foldl (fun f x => updF f x.chg.toNat x.amp) f i ≤ 80 := by
    intro l
    induction l with
    | nil => intro f _ hf i; exact hf i
    | cons x l ih =>
      intro f hl hf i
      refine ih _ (fun y hy => hl y (List.mem_cons_of_mem _ hy)) (fun j => ?_) i
      have hx := hl x (List.mem_cons_self ..)
      have a1 := hx.a1
      have a2 := hx.a2
      show 0 ≤ updF f x.chg.toNat x.amp j ∧ updF f x.chg.toNat x.amp j ≤ 80
      unfold updF
      split
      · have := hf x.chg.toNat; omega
      · exact hf j
  exact key l _ h (fun _ => by omega)
set_option maxRecDepth 100000 in
set_option maxHeartbeats 8000000 in
theorem coOffers_ok (C n1 c1 n2 c2 n3 c3 bC oC c4 n5 c5 nL cL bD oD cD bO oO cO n : Nat) (a1 a2 a3 a5 aL : Option Addr) (tick : Int) (s : GSite) (cap : Int) (ls : List Lse) (wa : Nat → Bool) (od : Nat → Int) (w : World) (HC : Hid (DcC C n1 c1 n2 c2 n3 c3 bC oC c4 n5 c5 nL cL bD oD cD bO oO cO n a1 a2 a3 a5 aL tick w)) (HS : Hid (RdSite w a1 a2 a3 (some ⟨bC, oC, none⟩) a5 n1 n2 n3 n n5 s)) (HP : Hid (ParkS s n cap)) (HD : Hid (DmOk bD oD n wa w))
    (HX : Hid (Rd 5 encLse w aL ls)) (HNL : Hid (ls.length = nL)) (HO : Hid (LsOk ls)) (HFT : Hid (∀ x ∈ ls, x.frm ≤ tick)) (HCG : Hid (∀ x ∈ ls, x.chg < (n : Int))) (ht0 : 0 ≤ tick) (ht1 : tick ≤ 1100000)
    (HOD : Hid (∀ i, i < n → w.cell? ⟨bO, oO + i, none⟩ = some (.int .i64 (od i)))) (HODB : Hid (∀ i, i < n → 0 ≤ od i ∧ od i < (n : Nat))) (HODI : Hid (∀ i j, i < j → j < n → od i ≠ od j)) :
    Calls Tryz.prog 43 #[.pointer (some ⟨C, 0, none⟩)] w (SrPost n (alvF (exL tick ls)) (fun _ => 32) cap w) := by
  have hn : n ≤ 4 := HP.out.n4
  have hn0 : 0 < n := HP.out.n0
  have HCH : Hid (ChC bC oC n s w) := Lib.hid (fun i hi => park_cells HS.out.r4 HS.out.l4 HP.out hi)
  have HAB : Hid (∀ i, 0 ≤ (alvF (exL tick ls)) i ∧ (alvF (exL tick ls)) i ≤ 80) := Lib.hid (alvF_bd (fun x hx => HO.out.ok x (List.mem_filter.1 hx).1))
  go_enter Tryz.func43, Tryz.ntmps43
  go_wp2_with fail
  refine (coTargets_ok C n1 c1 n2 c2 n3 c3 bC oC c4 n5 c5 nL cL bD oD cD bO oO cO n a1 a2 a3 a5 aL tick 0 s cap wa od w HC HS HP HD HOD HODB HODI).mono ?_
  rintro e w1 ⟨GT, tv, rfl, hGT, hOT, hTV, _, hb1⟩
  have HB1 := Lib.hid hb1
  have HOT := Lib.hid (And.intro hOT hGT)
  have HTV : Hid (∀ i, i < n → 0 ≤ tv i ∧ tv i ≤ 80) := Lib.hid (fun i hi => by have := hTV i hi; constructor <;> omega)
  have HT32 : Hid (∀ i, i < n → tv i ≤ 32) := Lib.hid (fun i hi => (hTV i hi).2.2)
  have HCW := Lib.hid (HC.out.keep hb1)
  clear hb1 hOT hGT hTV
  go_upto_region 4 with (fail)
  refine region_z (S := fun w' => Below w1.heap.size w1 w') [] (by kernel_rfl) ((Below.refl _ _).drew) (fun hHeld => ?_)
  refine zt (i := 0) (v := .pointer (some ⟨C, 0, none⟩)) [] (fun w' hSw => ?_) hHeld ?_
  · clear hHeld hSw
    go_simp
  simp only [Act.put, zl0, zl1, zl2, zl3, zl4, zl5]
  refine zt (i := 1) (v := .pointer (some ⟨C, 0, none⟩)) [] (fun w' hSw => ?_) hHeld ?_
  · clear hHeld hSw
    go_simp
  simp only [Act.put, zl0, zl1, zl2, zl3, zl4, zl5]
  refine zt (i := 2) (v := .pointer (some ⟨C, 5, none⟩)) [] (fun w' hSw => ?_) hHeld ?_
  · clear hHeld hSw
    go_simp
  simp only [Act.put, zl0, zl1, zl2, zl3, zl4, zl5]
  refine zt (i := 3) (v := .slice aL nL cL) [] (fun w' hSw => ?_) hHeld ?_
  · have s5' := (hSw.cell (zb HCW.out.k5)).trans HCW.out.k5
    have ls5 := zb s5'
    dsimp only at ls5
    clear hHeld hSw
    go_simp
  simp only [Act.put, zl0, zl1, zl2, zl3, zl4, zl5]
  refine zt (i := 4) (v := .pointer (some ⟨C, 0, none⟩)) [] (fun w' hSw => ?_) hHeld ?_
  · clear hHeld hSw
    go_simp
  simp only [Act.put, zl0, zl1, zl2, zl3, zl4, zl5]
  refine zt (i := 5) (v := .pointer (some ⟨C, 0, none⟩)) [] (fun w' hSw => ?_) hHeld ?_
  · clear hHeld hSw
    go_simp
  simp only [Act.put, zl0, zl1, zl2, zl3, zl4, zl5]
  refine zt (i := 6) (v := .pointer (some ⟨C, 0, none⟩)) [] (fun w' hSw => ?_) hHeld ?_
  · clear hHeld hSw
    go_simp
  simp only [Act.put, zl0, zl1, zl2, zl3, zl4, zl5]
  refine zt (i := 7) (v := .pointer (some ⟨C, 3, none⟩)) [] (fun w' hSw => ?_) hHeld ?_
  · clear hHeld hSw
    go_simp
  simp only [Act.put, zl0, zl1, zl2, zl3, zl4, zl5]
  refine zt (i := 8) (v := .slice (some ⟨bC, oC, none⟩) n c4) [] (fun w' hSw => ?_) hHeld ?_
  · have s3' := (hSw.cell (zb HCW.out.k3)).trans HCW.out.k3
    have ls3 := zb s3'
    dsimp only at ls3
    clear hHeld hSw
    go_simp
  simp only [Act.put, zl0, zl1, zl2, zl3, zl4, zl5]
  refine zt (i := 9) (v := .int .i64 (n : Nat)) [] (fun w' hSw => ?_) hHeld ?_
  · clear hHeld hSw
    go_simp
  simp only [Act.put, zl0, zl1, zl2, zl3, zl4, zl5]
  refine zt (i := 10) (v := .pointer (some ⟨C, 0, none⟩)) [] (fun w' hSw => ?_) hHeld ?_
  · clear hHeld hSw
    go_simp
  simp only [Act.put, zl0, zl1, zl2, zl3, zl4, zl5]
  refine zt (i := 11) (v := .pointer (some ⟨C, 0, none⟩)) [] (fun w' hSw => ?_) hHeld ?_
  · clear hHeld hSw
    go_simp
  simp only [Act.put, zl0, zl1, zl2, zl3, zl4, zl5]
  refine zt (i := 12) (v := .pointer (some ⟨C, 7, none⟩)) [] (fun w' hSw => ?_) hHeld ?_
  · clear hHeld hSw
    go_simp
  simp only [Act.put, zl0, zl1, zl2, zl3, zl4, zl5]
  refine zt (i := 13) (v := .int .i64 tick) [] (fun w' hSw => ?_) hHeld ?_
  · have s7' := (hSw.cell (zb HCW.out.k7)).trans HCW.out.k7
    have ls7 := zb s7'
    dsimp only at ls7
    clear hHeld hSw
    go_simp
  simp only [Act.put, zl0, zl1, zl2, zl3, zl4, zl5]
  refine zo 14 (fun K' hK => ?_)
  go_simp
  refine (leAlive_ok aL nL cL ls n tick _ (Lib.hid (HX.out.keep (below_then HB1.out hHeld))) HNL HO HFT HCG (by omega) ht0 ht1).mono ?_
  rintro e w2 ⟨A, rfl, hA, hAO, hbk⟩
  have HAO := Lib.hid (And.intro hAO (Nat.le_trans hHeld.size hA))
  refine hK.out _ _ ?_ (fun hHeld' => ?_)
  · exact hHeld.trans (hbk.mono hHeld.size)
  clear hK K' hHeld hbk hA hAO
  have hHeld := hHeld'
  clear hHeld'
  try simp only [Act.put, zl0, zl1, zl2, zl3, zl4, zl5]
  refine zt (i := 15) (v := .tuple #[.slice (some ⟨A, 0, none⟩) n n, .int .i64 0]) [] (fun w' hSw => ?_) hHeld ?_
  · clear hHeld hSw
    go_simp
  simp only [Act.put, zl0, zl1, zl2, zl3, zl4, zl5]
  refine zt (i := 16) (v := .slice (some ⟨A, 0, none⟩) n n) [] (fun w' hSw => ?_) hHeld ?_
  · clear hHeld hSw
    go_simp
  simp only [Act.put, zl0, zl1, zl2, zl3, zl4, zl5]
  refine zt (i := 17) (v := .int .i64 0) [] (fun w' hSw => ?_) hHeld ?_
  · clear hHeld hSw
    go_simp
  simp only [Act.put, zl0, zl1, zl2, zl3, zl4, zl5]
  refine zt (i := 18) (v := .slice (some ⟨A, 0, none⟩) n n) [] (fun w' hSw => ?_) hHeld ?_
  · clear hHeld hSw
    go_simp
  simp only [Act.put, zl0, zl1, zl2, zl3, zl4, zl5]
  refine zt (i := 19) (v := .int .i64 0) [] (fun w' hSw => ?_) hHeld ?_
  · clear hHeld hSw
    go_simp
  simp only [Act.put, zl0, zl1, zl2, zl3, zl4, zl5]
  refine wpAnyZ_done (by kernel_rfl) ?_ _
  have HB2 := Lib.hid hHeld
  clear hHeld HCW
  have HBW := Lib.hid (below_then HB1.out HB2.out)
  have HOT2 := Lib.hid (HOT.out.1.keep HB2.out HOT.out.1.lt)
  go_wp2_with fail
  refine (coBases_ok C n1 c1 n2 c2 n3 c3 bC oC c4 n5 c5 nL cL bD oD cD bO oO cO n a1 a2 a3 a5 aL tick s w2 (Lib.hid (HC.out.keep HBW.out)) (Lib.hid (HCH.out.keep HBW.out)) (by omega)).mono ?_
  rintro e w3 ⟨GB, rfl, hGB, hOB, hb3⟩
  have HB3 := Lib.hid (below_then HBW.out hb3)
  have HOB := Lib.hid hOB
  have HOT3 := Lib.hid (HOT2.out.keep hb3 HOT2.out.lt)
  have HOA3 := Lib.hid (HAO.out.1.keep hb3 HAO.out.1.lt)
  have HNE : Hid (A ≠ GB ∧ GT ≠ GB) := Lib.hid ⟨fun e => by have := HAO.out.1.lt; omega, fun e => by have := HOT2.out.lt; omega⟩
  have HGB : Hid (w.heap.size ≤ GB) := Lib.hid (Nat.le_trans HBW.out.size hGB)
  clear hGB hOB hb3 HB1 HB2 HOT HOT2 HAO HBW
  go_wp2_with fail
  go_loopg [43] (n + 1) (fun g1 v43 wr => ∃ k : Nat, v43 = .int .i64 k ∧ k ≤ n ∧ n - k ≤ g1 ∧ Hid (Own wr GB 3 n (fun j => if j < k then .int .i64 ((alvF (exL tick ls)) j) else .int .i64 0)) ∧ Hid (Own wr A 3 n (fun i => .int .i64 ((alvF (exL tick ls)) i))) ∧ Hid (Own wr GT 3 n (fun i => .int .i64 (tv i))) ∧ Hid (Below w.heap.size w wr))
  case atStart => exact ⟨0, by go_num, by omega, by omega, Lib.hid (HOB.out.congr (fun j hj => by rw [if_neg (by omega)])), HOA3, HOT3, HB3⟩
  case round =>
    clear HOB HOA3 HOT3 HB3
    obtain ⟨k, rfl, hk, hg1, HBr, HAr, HTr, HBW⟩ := hrel
    by_cases hlt : k < n
    · have hltz : (k : Int) < (n : Int) := by omega
      obtain ⟨a, ha⟩ : ∃ a, a = (alvF (exL tick ls)) k := ⟨_, rfl⟩
      have hab := HAB.out k
      have hac := HAr.out.cell hlt
      rw [← ha] at hab hac
      have HA := Lib.hid ha
      clear ha
      have c := HBr.out.cell hlt
      rw [if_neg (show ¬ k < k by omega)] at c
      have f := HBr.out.frozen k
      have l := HBr.out.lt
      have lA := HAr.out.lt
      have hm1 : Mod (fun j => j = GB) wr (wr.setCell ⟨GB, k, none⟩ (.int .i64 a)) := (Mod.refl (fun j => j = GB) wr).setCell (p := ⟨GB, k, none⟩) (.inl rfl) _
      have HBn := Lib.hid ((HBr.out.set k (.int .i64 a)).congr (f' := fun j => if j < k + 1 then .int .i64 ((alvF (exL tick ls)) j) else .int .i64 0) (fun j hj => by
        by_cases e : j = k
        · rw [if_pos e, if_pos (show j < k + 1 by omega), e, HA.out]
        · rw [if_neg e]
          by_cases e2 : j < k
          · rw [if_pos e2, if_pos (show j < k + 1 by omega)]
          · rw [if_neg e2, if_neg (show ¬ j < k + 1 by omega)]))
      have HAn := Lib.hid (HAr.out.mod hm1 HNE.out.1)
      have HTn := Lib.hid (HTr.out.mod hm1 HNE.out.2)
      have HBWn := Lib.hid (HBW.out.setCell (p := ⟨GB, k, none⟩) HGB.out (.int .i64 a))
      clear hm1 HBr HAr HTr HBW
      by_cases hpos : 0 < a
      · go_wp2_with fail
        go_roundg (n - (k + 1))
        case measure => omega
        case rel => exact ⟨k + 1, by go_num, by omega, by omega, HBn, HAn, HTn, HBWn⟩
      · have ha0 : a = 0 := by omega
        subst ha0
        go_wp2_with fail
        go_roundg (n - (k + 1))
        case measure => omega
        case rel => exact ⟨k + 1, by go_num, by omega, by omega, HBn, HAn, HTn, HBWn⟩
    · have hltz : ¬ (k : Int) < (n : Int) := by omega
      have hkn : k = n := by omega
      subst hkn
      have HCW := Lib.hid (HC.out.keep HBW.out)
      go_upto_region 13 with (fail)
      refine region_z (S := fun w' => Below wr.heap.size wr w') [] (by kernel_rfl) ((Below.refl _ _).drew) (fun hHeld => ?_)
      refine zt (i := 0) (v := .pointer (some ⟨C, 0, none⟩)) [] (fun w' hSw => ?_) hHeld ?_
      · clear hHeld hSw
        go_simp
      simp only [Act.put, zl0, zl1, zl2, zl3, zl4, zl5]
      refine zt (i := 1) (v := .pointer (some ⟨C, 0, none⟩)) [] (fun w' hSw => ?_) hHeld ?_
      · clear hHeld hSw
        go_simp
      simp only [Act.put, zl0, zl1, zl2, zl3, zl4, zl5]
      refine zt (i := 2) (v := .pointer (some ⟨C, 0, none⟩)) [] (fun w' hSw => ?_) hHeld ?_
      · clear hHeld hSw
        go_simp
      simp only [Act.put, zl0, zl1, zl2, zl3, zl4, zl5]
      refine zt (i := 3) (v := .agg #[.slice a1 n1 c1, .slice a2 n2 c2, .slice a3 n3 c3, .slice (some ⟨bC, oC, none⟩) k c4, .slice a5 n5 c5]) [] (fun w' hSw => ?_) hHeld ?_
      · have s0' := (hSw.cell (zb HCW.out.k0)).trans HCW.out.k0
        have ls0 := zb s0'
        dsimp only at ls0
        have s1' := (hSw.cell (zb HCW.out.k1)).trans HCW.out.k1
        have ls1 := zb s1'
        dsimp only at ls1
        have s2' := (hSw.cell (zb HCW.out.k2)).trans HCW.out.k2
        have ls2 := zb s2'
        dsimp only at ls2
        have s3' := (hSw.cell (zb HCW.out.k3)).trans HCW.out.k3
        have ls3 := zb s3'
        dsimp only at ls3
        have s4' := (hSw.cell (zb HCW.out.k4)).trans HCW.out.k4
        have ls4 := zb s4'
        dsimp only at ls4
        clear hHeld hSw
        go_simp
      simp only [Act.put, zl0, zl1, zl2, zl3, zl4, zl5]
      refine zt (i := 4) (v := .slice (some ⟨GB, 0, none⟩) k k) [] (fun w' hSw => ?_) hHeld ?_
      · clear hHeld hSw
        go_simp
      simp only [Act.put, zl0, zl1, zl2, zl3, zl4, zl5]
      refine zt (i := 5) (v := .slice (some ⟨GT, 0, none⟩) k k) [] (fun w' hSw => ?_) hHeld ?_
      · clear hHeld hSw
        go_simp
      simp only [Act.put, zl0, zl1, zl2, zl3, zl4, zl5]
      refine zt (i := 6) (v := .pointer (some ⟨C, 0, none⟩)) [] (fun w' hSw => ?_) hHeld ?_
      · clear hHeld hSw
        go_simp
      simp only [Act.put, zl0, zl1, zl2, zl3, zl4, zl5]
      refine zt (i := 7) (v := .pointer (some ⟨C, 0, none⟩)) [] (fun w' hSw => ?_) hHeld ?_
      · clear hHeld hSw
        go_simp
      simp only [Act.put, zl0, zl1, zl2, zl3, zl4, zl5]
      refine zt (i := 8) (v := .pointer (some ⟨C, 8, none⟩)) [] (fun w' hSw => ?_) hHeld ?_
      · clear hHeld hSw
        go_simp
      simp only [Act.put, zl0, zl1, zl2, zl3, zl4, zl5]
      refine zt (i := 9) (v := .slice (some ⟨bO, oO, none⟩) k cO) [] (fun w' hSw => ?_) hHeld ?_
      · have s8' := (hSw.cell (zb HCW.out.k8)).trans HCW.out.k8
        have ls8 := zb s8'
        dsimp only at ls8
        clear hHeld hSw
        go_simp
      simp only [Act.put, zl0, zl1, zl2, zl3, zl4, zl5]
      refine zo 10 (fun K' hK => ?_)
      go_simp
      refine (spShare_ok a1 a2 a3 a5 n1 c1 n2 c2 n3 c3 c4 n5 c5 bC oC GB 0 k GT 0 k bO oO cO k s cap (alvF (exL tick ls)) tv od _ (Lib.hid (HS.out.keep (below_then HBW.out hHeld))) HP (Lib.hid (fun i hi => by have := (HBr.out.keep hHeld HBr.out.lt).cell hi; rw [if_pos hi] at this; simpa using this)) (Lib.hid (fun i hi => by have := (HTr.out.keep hHeld HTr.out.lt).cell hi; simpa using this)) (Lib.hid (fun i hi => ((below_then HBW.out hHeld).cell (zb (HOD.out i hi))).trans (HOD.out i hi))) (Lib.hid (fun i hi => HAB.out i)) (Lib.hid (fun i hi => HTV.out i hi)) HODB HODI).mono ?_
      rintro e wk ⟨G3, v, rfl, hG3, hO3, hv, hsum, hbk⟩
      have HSR := Lib.hid (And.intro (Nat.le_trans hHeld.size hG3) (And.intro hO3 (And.intro hv hsum)))
      refine hK.out _ _ ?_ (fun hHeld' => ?_)
      · exact hHeld.trans (hbk.mono hHeld.size)
      clear hK K' hHeld hbk hG3 hO3 hv hsum
      have hHeld := hHeld'
      clear hHeld'
      try simp only [Act.put, zl0, zl1, zl2, zl3, zl4, zl5]
      refine zt (i := 11) (v := .slice (some ⟨G3, 0, none⟩) k k) [] (fun w' hSw => ?_) hHeld ?_
      · clear hHeld hSw
        go_simp
      simp only [Act.put, zl0, zl1, zl2, zl3, zl4, zl5]
      refine zt (i := 12) (v := .int .i64 0) [] (fun w' hSw => ?_) hHeld ?_
      · clear hHeld hSw
        go_simp
      simp only [Act.put, zl0, zl1, zl2, zl3, zl4, zl5]
      refine zt (i := 13) (v := .slice (some ⟨G3, 0, none⟩) k k) [] (fun w' hSw => ?_) hHeld ?_
      · clear hHeld hSw
        go_simp
      simp only [Act.put, zl0, zl1, zl2, zl3, zl4, zl5]
      refine zt (i := 14) (v := .int .i64 0) [] (fun w' hSw => ?_) hHeld ?_
      · clear hHeld hSw
        go_simp
      simp only [Act.put, zl0, zl1, zl2, zl3, zl4, zl5]
      refine wpAnyZ_done (by kernel_rfl) ?_ _
      go_wp2_with fail
      refine bodyPost_ret (results_tmp2 (t := 2) (u := 3) (by kernel_rfl) _ _ _) rfl ?_
      exact ⟨G3, v, rfl, Nat.le_trans HBW.out.size HSR.out.1, HSR.out.2.1, fun i hi => by have h1 := HSR.out.2.2.1 i hi; have h2 := HT32.out i hi; exact ⟨h1.1, h1.2.2, h1.2.2⟩, HSR.out.2.2.2, below_then HBW.out hHeld⟩
end Go.Proofs.YtkbbapefgifagaaGreatDoor
