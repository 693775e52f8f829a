/-
Several texts in one: TwT, TwU.
-/
import Derived.Test.YtkbbapefgifagaaGreatDoorCTwS
/-
Two controllers: charger.Allowed, and the law's head.
-/
namespace Go.Proofs.YtkbbapefgifagaaGreatDoor
open Go.RowKit
set_option linter.unusedVariables false
set_option linter.unusedSimpArgs false
set_option maxRecDepth 100000 in
theorem chAllowed_on (nm : ByteArray) (at_ ph mn mx st fb ow : Int) (a l : Int) (w : World) (h : ChOk ph mn mx st fb) (hl2 : 1 ≤ l) (hl3 : l ≤ 1000000) (ha0 : 0 ≤ a) (ha1 : a ≤ mx) : Calls Tryz.prog 12 #[.agg #[.string nm, .int .i64 at_, .int .i64 ph, .int .i64 mn, .int .i64 mx, .int .i64 st, .int .i64 fb, .int .i64 ow], .agg #[.int .i64 4, .int .i64 a, .int .i64 l, .bool false]] w fun e w' => e = .returned (.int .i64 a) ∧ Below w.heap.size w w' := by
  have HCO := Lib.hid h
  have hlz : ¬ l = 0 := by omega
  have hlb : (l != 0) = true := by simpa using hlz
  clear h
  obtain ⟨W0, hW0⟩ : ∃ W, W = (w.alloc (.cells #[.string nm, .int .i64 at_, .int .i64 ph, .int .i64 mn, .int .i64 mx, .int .i64 st, .int .i64 fb, .int .i64 ow] 59)).alloc (.cells #[.int .i64 4, .int .i64 a, .int .i64 l, .bool false] 61) := ⟨_, rfl⟩
  obtain ⟨C, hC⟩ : ∃ S, S = w.heap.size := ⟨_, rfl⟩
  obtain ⟨S, hS⟩ : ∃ S, S = w.heap.size + 1 := ⟨_, rfl⟩
  have hb0 : Below w.heap.size w W0 := by rw [hW0]; exact ((Below.refl _ _).alloc (Nat.le_refl _) _).alloc (by simp) _
  obtain ⟨c0, c1, c2, c3, c4, c5, c6, c7⟩ : W0.cell? ⟨C, 0, none⟩ = some (.string nm) ∧ W0.cell? ⟨C, 1, none⟩ = some (.int .i64 at_) ∧ W0.cell? ⟨C, 2, none⟩ = some (.int .i64 ph) ∧ W0.cell? ⟨C, 3, none⟩ = some (.int .i64 mn) ∧ W0.cell? ⟨C, 4, none⟩ = some (.int .i64 mx) ∧ W0.cell? ⟨C, 5, none⟩ = some (.int .i64 st) ∧ W0.cell? ⟨C, 6, none⟩ = some (.int .i64 fb) ∧ W0.cell? ⟨C, 7, none⟩ = some (.int .i64 ow) := by rw [hW0, hC]; exact ⟨by go_simp, by go_simp, by go_simp, by go_simp, by go_simp, by go_simp, by go_simp, by go_simp⟩
  obtain ⟨s0, s1, s2, s3⟩ : W0.cell? ⟨S, 0, none⟩ = some (.int .i64 4) ∧ W0.cell? ⟨S, 1, none⟩ = some (.int .i64 a) ∧ W0.cell? ⟨S, 2, none⟩ = some (.int .i64 l) ∧ W0.cell? ⟨S, 3, none⟩ = some (.bool false) := by rw [hW0, hS]; exact ⟨by go_simp, by go_simp, by go_simp, by go_simp⟩
  have lC : C < W0.heap.size := zb c0
  have lS : S < W0.heap.size := zb s0
  have HB := Lib.hid hb0
  have HW0 := Lib.hid (And.intro hW0.symm (And.intro hC.symm hS.symm))
  clear hW0 hb0 hC hS
  go_enter Tryz.func12, Tryz.ntmps12
  go_upto_region 1 with (fail)
  try simp only [World.size_alloc]
  rw [HW0.out.1, HW0.out.2.2, HW0.out.2.1]
  clear HW0
  go_wp2_with fail
  refine (chValid_on nm at_ ph mn mx st fb ow a l W0 HCO.out (by omega) (by omega) hl3 ha0 ha1).mono ?_
  rintro e W1 ⟨rfl, hb1⟩
  have HB := Lib.hid (below_then HB.out hb1)
  replace c6 := (hb1.cell (p := ⟨C, 6, none⟩) lC).trans c6
  replace c4 := (hb1.cell (p := ⟨C, 4, none⟩) lC).trans c4
  replace s0 := (hb1.cell (p := ⟨S, 0, none⟩) lS).trans s0
  replace s1 := (hb1.cell (p := ⟨S, 1, none⟩) lS).trans s1
  replace s2 := (hb1.cell (p := ⟨S, 2, none⟩) lS).trans s2
  replace s3 := (hb1.cell (p := ⟨S, 3, none⟩) lS).trans s3
  replace lC : C < W1.heap.size := zb c4
  replace lS : S < W1.heap.size := zb s0
  clear hb1 c0 c1 c2 c3 c5 c7
  go_wp2_with fail
  go_ret
  exact ⟨rfl, HB.out⟩
set_option maxRecDepth 100000 in
theorem chAllowed_off (nm : ByteArray) (at_ ph mn mx st fb ow : Int) (w : World) (h : ChOk ph mn mx st fb) : Calls Tryz.prog 12 #[.agg #[.string nm, .int .i64 at_, .int .i64 ph, .int .i64 mn, .int .i64 mx, .int .i64 st, .int .i64 fb, .int .i64 ow], .agg #[.int .i64 4, .int .i64 0, .int .i64 0, .bool false]] w fun e w' => e = .returned (.int .i64 fb) ∧ Below w.heap.size w w' := by
  have HCO := Lib.hid h
  clear h
  obtain ⟨W0, hW0⟩ : ∃ W, W = (w.alloc (.cells #[.string nm, .int .i64 at_, .int .i64 ph, .int .i64 mn, .int .i64 mx, .int .i64 st, .int .i64 fb, .int .i64 ow] 59)).alloc (.cells #[.int .i64 4, .int .i64 0, .int .i64 0, .bool false] 61) := ⟨_, rfl⟩
  obtain ⟨C, hC⟩ : ∃ S, S = w.heap.size := ⟨_, rfl⟩
  obtain ⟨S, hS⟩ : ∃ S, S = w.heap.size + 1 := ⟨_, rfl⟩
  have hb0 : Below w.heap.size w W0 := by rw [hW0]; exact ((Below.refl _ _).alloc (Nat.le_refl _) _).alloc (by simp) _
  obtain ⟨c0, c1, c2, c3, c4, c5, c6, c7⟩ : W0.cell? ⟨C, 0, none⟩ = some (.string nm) ∧ W0.cell? ⟨C, 1, none⟩ = some (.int .i64 at_) ∧ W0.cell? ⟨C, 2, none⟩ = some (.int .i64 ph) ∧ W0.cell? ⟨C, 3, none⟩ = some (.int .i64 mn) ∧ W0.cell? ⟨C, 4, none⟩ = some (.int .i64 mx) ∧ W0.cell? ⟨C, 5, none⟩ = some (.int .i64 st) ∧ W0.cell? ⟨C, 6, none⟩ = some (.int .i64 fb) ∧ W0.cell? ⟨C, 7, none⟩ = some (.int .i64 ow) := by rw [hW0, hC]; exact ⟨by go_simp, by go_simp, by go_simp, by go_simp, by go_simp, by go_simp, by go_simp, by go_simp⟩
  obtain ⟨s0, s1, s2, s3⟩ : W0.cell? ⟨S, 0, none⟩ = some (.int .i64 4) ∧ W0.cell? ⟨S, 1, none⟩ = some (.int .i64 0) ∧ W0.cell? ⟨S, 2, none⟩ = some (.int .i64 0) ∧ W0.cell? ⟨S, 3, none⟩ = some (.bool false) := by rw [hW0, hS]; exact ⟨by go_simp, by go_simp, by go_simp, by go_simp⟩
  have lC : C < W0.heap.size := zb c0
  have lS : S < W0.heap.size := zb s0
  have HB := Lib.hid hb0
  have HW0 := Lib.hid (And.intro hW0.symm (And.intro hC.symm hS.symm))
  clear hW0 hb0 hC hS
  go_enter Tryz.func12, Tryz.ntmps12
  go_upto_region 1 with (fail)
  try simp only [World.size_alloc]
  rw [HW0.out.1, HW0.out.2.2, HW0.out.2.1]
  clear HW0
  go_wp2_with fail
  refine (chValid_off nm at_ ph mn mx st fb ow W0 HCO.out (by have := HCO.out.m1; have := HCO.out.mm; omega)).mono ?_
  rintro e W1 ⟨rfl, hb1⟩
  have HB := Lib.hid (below_then HB.out hb1)
  replace c6 := (hb1.cell (p := ⟨C, 6, none⟩) lC).trans c6
  replace c4 := (hb1.cell (p := ⟨C, 4, none⟩) lC).trans c4
  replace s0 := (hb1.cell (p := ⟨S, 0, none⟩) lS).trans s0
  replace s1 := (hb1.cell (p := ⟨S, 1, none⟩) lS).trans s1
  replace s2 := (hb1.cell (p := ⟨S, 2, none⟩) lS).trans s2
  replace s3 := (hb1.cell (p := ⟨S, 3, none⟩) lS).trans s3
  replace lC : C < W1.heap.size := zb c4
  replace lS : S < W1.heap.size := zb s0
  clear hb1 c0 c1 c2 c3 c5 c7
  go_wp2_with fail
  go_ret
  exact ⟨rfl, HB.out⟩
set_option maxRecDepth 100000 in
set_option maxHeartbeats 8000000 in
theorem r7Lease_any (w : World) (hG46 : w.cell? ⟨0, 46, none⟩ = some (.int .i64 (-2))) (hG52 : w.cell? ⟨0, 52, none⟩ = some (.int .i64 (-2))) : Calls Tryz.prog 4 #[] w fun e w' => e = .returned (.bool true) ∧ Below w.heap.size w w' := by
  have HG46 := Lib.hid hG46
  have HG52 := Lib.hid hG52
  have HCO : Hid (ChOk 1 6 32 1 6) := Lib.hid ⟨by omega, by omega, by omega, by omega, by omega, by omega, by omega, .inr (by omega)⟩
  obtain ⟨W0, hW0⟩ : ∃ W, W = (w.alloc (.cells #[.string ⟨#[]⟩, .int .i64 0, .int .i64 1, .int .i64 6, .int .i64 32, .int .i64 1, .int .i64 6, .int .i64 0] 59)).alloc (.cells #[.int .i64 4, .int .i64 0, .int .i64 0, .bool false] 61) := ⟨_, rfl⟩
  obtain ⟨C, hC⟩ : ∃ S, S = w.heap.size := ⟨_, rfl⟩
  obtain ⟨T, hT⟩ : ∃ S, S = w.heap.size + 1 := ⟨_, rfl⟩
  have hb0 : Below w.heap.size w W0 := by rw [hW0]; exact ((Below.refl _ _).alloc (Nat.le_refl _) _).alloc (by simp) _
  have HC : Hid (W0.cell? ⟨C, 0, none⟩ = some (.string ⟨#[]⟩) ∧ W0.cell? ⟨C, 1, none⟩ = some (.int .i64 0) ∧ W0.cell? ⟨C, 2, none⟩ = some (.int .i64 1) ∧ W0.cell? ⟨C, 3, none⟩ = some (.int .i64 6) ∧ W0.cell? ⟨C, 4, none⟩ = some (.int .i64 32) ∧ W0.cell? ⟨C, 5, none⟩ = some (.int .i64 1) ∧ W0.cell? ⟨C, 6, none⟩ = some (.int .i64 6) ∧ W0.cell? ⟨C, 7, none⟩ = some (.int .i64 0)) := Lib.hid (by rw [hW0, hC]; exact ⟨by go_simp, by go_simp, by go_simp, by go_simp, by go_simp, by go_simp, by go_simp, by go_simp⟩)
  have HT : Hid (Own W0 T 61 4 (csF 4 0 0)) := Lib.hid (by rw [hW0, hT]; exact Own.newAt _ 61 _ _ (by simp) (n := 4) rfl (fun i hi => by match i, hi with | 0, _ => rfl | 1, _ => rfl | 2, _ => rfl | 3, _ => rfl))
  have HNE : Hid (¬ C = T ∧ w.heap.size ≤ T) := Lib.hid (by omega)
  have HB := Lib.hid hb0
  have HW0 := Lib.hid (And.intro hW0.symm (And.intro hC.symm hT.symm))
  clear hW0 hb0 hC hT hG46 hG52
  go_enter Tryz.func4, Tryz.ntmps4
  go_upto_region 3 with (fail)
  try simp only [World.size_alloc]
  rw [HW0.out.1, HW0.out.2.2, HW0.out.2.1]
  clear HW0
  obtain ⟨c0, c1, c2, c3, c4, c5, c6, c7⟩ : W0.cell? ⟨C, 0, none⟩ = some (.string ⟨#[]⟩) ∧ W0.cell? ⟨C, 1, none⟩ = some (.int .i64 0) ∧ W0.cell? ⟨C, 2, none⟩ = some (.int .i64 1) ∧ W0.cell? ⟨C, 3, none⟩ = some (.int .i64 6) ∧ W0.cell? ⟨C, 4, none⟩ = some (.int .i64 32) ∧ W0.cell? ⟨C, 5, none⟩ = some (.int .i64 1) ∧ W0.cell? ⟨C, 6, none⟩ = some (.int .i64 6) ∧ W0.cell? ⟨C, 7, none⟩ = some (.int .i64 0) := HC.out
  have lC : C < W0.heap.size := zb c0
  obtain ⟨t0, t1, t2, t3⟩ : W0.cell? ⟨T, 0, none⟩ = some (.int .i64 4) ∧ W0.cell? ⟨T, 1, none⟩ = some (.int .i64 0) ∧ W0.cell? ⟨T, 2, none⟩ = some (.int .i64 0) ∧ W0.cell? ⟨T, 3, none⟩ = some (.bool false) := ⟨HT.out.cell (i := 0) (by omega), HT.out.cell (i := 1) (by omega), HT.out.cell (i := 2) (by omega), HT.out.cell (i := 3) (by omega)⟩
  have lT : T < W0.heap.size := HT.out.lt
  go_wp2_with fail
  refine (chStep_lease ⟨#[]⟩ 0 1 6 32 1 6 0 20 12 W0 HCO.out (Lib.hid (by omega)) ((HB.out.cell (zb HG46.out)).trans HG46.out)).mono ?_
  rintro e W1 ⟨rfl, hb1⟩
  have HT := Lib.hid (HT.out.keep hb1 HT.out.lt)
  have HC : Hid (W1.cell? ⟨C, 0, none⟩ = some (.string ⟨#[]⟩) ∧ W1.cell? ⟨C, 1, none⟩ = some (.int .i64 0) ∧ W1.cell? ⟨C, 2, none⟩ = some (.int .i64 1) ∧ W1.cell? ⟨C, 3, none⟩ = some (.int .i64 6) ∧ W1.cell? ⟨C, 4, none⟩ = some (.int .i64 32) ∧ W1.cell? ⟨C, 5, none⟩ = some (.int .i64 1) ∧ W1.cell? ⟨C, 6, none⟩ = some (.int .i64 6) ∧ W1.cell? ⟨C, 7, none⟩ = some (.int .i64 0)) := Lib.hid ⟨(hb1.cell (zb c0)).trans c0, (hb1.cell (zb c1)).trans c1, (hb1.cell (zb c2)).trans c2, (hb1.cell (zb c3)).trans c3, (hb1.cell (zb c4)).trans c4, (hb1.cell (zb c5)).trans c5, (hb1.cell (zb c6)).trans c6, (hb1.cell (zb c7)).trans c7⟩
  have HB := Lib.hid (below_then HB.out hb1)
  clear hb1
  clear c0 c1 c2 c3 c4 c5 c6 c7 lC t0 t1 t2 t3 lT
  obtain ⟨c0, c1, c2, c3, c4, c5, c6, c7⟩ : W1.cell? ⟨C, 0, none⟩ = some (.string ⟨#[]⟩) ∧ W1.cell? ⟨C, 1, none⟩ = some (.int .i64 0) ∧ W1.cell? ⟨C, 2, none⟩ = some (.int .i64 1) ∧ W1.cell? ⟨C, 3, none⟩ = some (.int .i64 6) ∧ W1.cell? ⟨C, 4, none⟩ = some (.int .i64 32) ∧ W1.cell? ⟨C, 5, none⟩ = some (.int .i64 1) ∧ W1.cell? ⟨C, 6, none⟩ = some (.int .i64 6) ∧ W1.cell? ⟨C, 7, none⟩ = some (.int .i64 0) := HC.out
  have lC : C < W1.heap.size := zb c0
  obtain ⟨t0, t1, t2, t3⟩ : W1.cell? ⟨T, 0, none⟩ = some (.int .i64 4) ∧ W1.cell? ⟨T, 1, none⟩ = some (.int .i64 0) ∧ W1.cell? ⟨T, 2, none⟩ = some (.int .i64 0) ∧ W1.cell? ⟨T, 3, none⟩ = some (.bool false) := ⟨HT.out.cell (i := 0) (by omega), HT.out.cell (i := 1) (by omega), HT.out.cell (i := 2) (by omega), HT.out.cell (i := 3) (by omega)⟩
  have lT : T < W1.heap.size := HT.out.lt
  have g0 := HT.out.frozen 0
  have g1 := HT.out.frozen 1
  have g2 := HT.out.frozen 2
  have g3 := HT.out.frozen 3
  obtain ⟨W2, hw⟩ : ∃ W, W = (((W1.setCell ⟨T, 0, none⟩ (.int .i64 4)).setCell ⟨T, 1, none⟩ (.int .i64 20)).setCell ⟨T, 2, none⟩ (.int .i64 12)).setCell ⟨T, 3, none⟩ (.bool false) := ⟨_, rfl⟩
  have hm : Mod (fun j => j = T) W1 W2 := by rw [hw]; exact ((((Mod.refl (fun j => j = T) W1).setCell (p := ⟨T, 0, none⟩) (.inl rfl) _).setCell (p := ⟨T, 1, none⟩) (.inl rfl) _).setCell (p := ⟨T, 2, none⟩) (.inl rfl) _).setCell (p := ⟨T, 3, none⟩) (.inl rfl) _
  have HT2 : Hid (Own W2 T 61 4 (csF 4 20 12)) := Lib.hid (by rw [hw]; exact ((((HT.out.set 0 _).set 1 _).set 2 _).set 3 _).congr (fun i hi => by match i, hi with | 0, _ => rfl | 1, _ => rfl | 2, _ => rfl | 3, _ => rfl))
  have HC2 : Hid (W2.cell? ⟨C, 0, none⟩ = some (.string ⟨#[]⟩) ∧ W2.cell? ⟨C, 1, none⟩ = some (.int .i64 0) ∧ W2.cell? ⟨C, 2, none⟩ = some (.int .i64 1) ∧ W2.cell? ⟨C, 3, none⟩ = some (.int .i64 6) ∧ W2.cell? ⟨C, 4, none⟩ = some (.int .i64 32) ∧ W2.cell? ⟨C, 5, none⟩ = some (.int .i64 1) ∧ W2.cell? ⟨C, 6, none⟩ = some (.int .i64 6) ∧ W2.cell? ⟨C, 7, none⟩ = some (.int .i64 0)) := Lib.hid ⟨(hm.cell (zb c0) (by show ¬ C = T; exact HNE.out.1)).trans c0, (hm.cell (zb c1) (by show ¬ C = T; exact HNE.out.1)).trans c1, (hm.cell (zb c2) (by show ¬ C = T; exact HNE.out.1)).trans c2, (hm.cell (zb c3) (by show ¬ C = T; exact HNE.out.1)).trans c3, (hm.cell (zb c4) (by show ¬ C = T; exact HNE.out.1)).trans c4, (hm.cell (zb c5) (by show ¬ C = T; exact HNE.out.1)).trans c5, (hm.cell (zb c6) (by show ¬ C = T; exact HNE.out.1)).trans c6, (hm.cell (zb c7) (by show ¬ C = T; exact HNE.out.1)).trans c7⟩
  have HB2 : Hid (Below w.heap.size w W2) := Lib.hid (HB.out.trans (hm.below HB.out.size (fun j _ e => by have := HNE.out.2; omega)))
  have HWW := Lib.hid hw.symm
  clear hw hm
  go_upto_region 4 with (fail)
  rw [HWW.out]
  clear HWW g0 g1 g2 g3 HC HT HB
  clear c0 c1 c2 c3 c4 c5 c6 c7 lC t0 t1 t2 t3 lT
  have HT3 : Hid (Own W2 T 61 4 (csF 4 20 (12 - ((0 : Nat) : Int)))) := Lib.hid (by simpa using HT2.out)
  go_wp2_with fail
  go_loopg [15] 11 (fun g1 v15 wr => ∃ k : Nat, v15 = .int .i64 k ∧ k ≤ 11 ∧ 11 - k ≤ g1 ∧ Hid (Own wr T 61 4 (csF 4 20 (12 - (k : Int)))) ∧ Hid (wr.cell? ⟨C, 0, none⟩ = some (.string ⟨#[]⟩) ∧ wr.cell? ⟨C, 1, none⟩ = some (.int .i64 0) ∧ wr.cell? ⟨C, 2, none⟩ = some (.int .i64 1) ∧ wr.cell? ⟨C, 3, none⟩ = some (.int .i64 6) ∧ wr.cell? ⟨C, 4, none⟩ = some (.int .i64 32) ∧ wr.cell? ⟨C, 5, none⟩ = some (.int .i64 1) ∧ wr.cell? ⟨C, 6, none⟩ = some (.int .i64 6) ∧ wr.cell? ⟨C, 7, none⟩ = some (.int .i64 0)) ∧ Hid (Below w.heap.size w wr))
  case atStart => exact ⟨0, by go_num, by omega, by omega, HT3, HC2, HB2⟩
  case round =>
    clear HT3 HT2 HC2 HB2
    obtain ⟨k, rfl, hk, hg1, HT, HC, HB⟩ := hrel
    by_cases hlt : k < 11
    · have hltz : (k : Int) < 11 := by omega
      obtain ⟨l, hl⟩ : ∃ l, l = 12 - (k : Int) := ⟨_, rfl⟩
      rw [← hl] at HT
      have HL := Lib.hid hl
      have hl2 : 2 ≤ l ∧ l ≤ 12 := by omega
      obtain ⟨hl2, hl3⟩ := hl2
      clear hl
      obtain ⟨c0, c1, c2, c3, c4, c5, c6, c7⟩ : wr.cell? ⟨C, 0, none⟩ = some (.string ⟨#[]⟩) ∧ wr.cell? ⟨C, 1, none⟩ = some (.int .i64 0) ∧ wr.cell? ⟨C, 2, none⟩ = some (.int .i64 1) ∧ wr.cell? ⟨C, 3, none⟩ = some (.int .i64 6) ∧ wr.cell? ⟨C, 4, none⟩ = some (.int .i64 32) ∧ wr.cell? ⟨C, 5, none⟩ = some (.int .i64 1) ∧ wr.cell? ⟨C, 6, none⟩ = some (.int .i64 6) ∧ wr.cell? ⟨C, 7, none⟩ = some (.int .i64 0) := HC.out
      have lC : C < wr.heap.size := zb c0
      obtain ⟨t0, t1, t2, t3⟩ : wr.cell? ⟨T, 0, none⟩ = some (.int .i64 4) ∧ wr.cell? ⟨T, 1, none⟩ = some (.int .i64 20) ∧ wr.cell? ⟨T, 2, none⟩ = some (.int .i64 l) ∧ wr.cell? ⟨T, 3, none⟩ = some (.bool false) := ⟨HT.out.cell (i := 0) (by omega), HT.out.cell (i := 1) (by omega), HT.out.cell (i := 2) (by omega), HT.out.cell (i := 3) (by omega)⟩
      have lT : T < wr.heap.size := HT.out.lt
      go_wp2_with fail
      refine (chStep_tick ⟨#[]⟩ 0 1 6 32 1 6 0 20 l wr HCO.out hl2 (by omega) (by omega) (by omega) ((HB.out.cell (zb HG52.out)).trans HG52.out)).mono ?_
      rintro e W1 ⟨rfl, hb1⟩
      have HT := Lib.hid (HT.out.keep hb1 HT.out.lt)
      have HC : Hid (W1.cell? ⟨C, 0, none⟩ = some (.string ⟨#[]⟩) ∧ W1.cell? ⟨C, 1, none⟩ = some (.int .i64 0) ∧ W1.cell? ⟨C, 2, none⟩ = some (.int .i64 1) ∧ W1.cell? ⟨C, 3, none⟩ = some (.int .i64 6) ∧ W1.cell? ⟨C, 4, none⟩ = some (.int .i64 32) ∧ W1.cell? ⟨C, 5, none⟩ = some (.int .i64 1) ∧ W1.cell? ⟨C, 6, none⟩ = some (.int .i64 6) ∧ W1.cell? ⟨C, 7, none⟩ = some (.int .i64 0)) := Lib.hid ⟨(hb1.cell (zb c0)).trans c0, (hb1.cell (zb c1)).trans c1, (hb1.cell (zb c2)).trans c2, (hb1.cell (zb c3)).trans c3, (hb1.cell (zb c4)).trans c4, (hb1.cell (zb c5)).trans c5, (hb1.cell (zb c6)).trans c6, (hb1.cell (zb c7)).trans c7⟩
      have HB := Lib.hid (below_then HB.out hb1)
      clear hb1
      clear c0 c1 c2 c3 c4 c5 c6 c7 lC t0 t1 t2 t3 lT
      obtain ⟨c0, c1, c2, c3, c4, c5, c6, c7⟩ : W1.cell? ⟨C, 0, none⟩ = some (.string ⟨#[]⟩) ∧ W1.cell? ⟨C, 1, none⟩ = some (.int .i64 0) ∧ W1.cell? ⟨C, 2, none⟩ = some (.int .i64 1) ∧ W1.cell? ⟨C, 3, none⟩ = some (.int .i64 6) ∧ W1.cell? ⟨C, 4, none⟩ = some (.int .i64 32) ∧ W1.cell? ⟨C, 5, none⟩ = some (.int .i64 1) ∧ W1.cell? ⟨C, 6, none⟩ = some (.int .i64 6) ∧ W1.cell? ⟨C, 7, none⟩ = some (.int .i64 0) := HC.out
      have lC : C < W1.heap.size := zb c0
      obtain ⟨t0, t1, t2, t3⟩ : W1.cell? ⟨T, 0, none⟩ = some (.int .i64 4) ∧ W1.cell? ⟨T, 1, none⟩ = some (.int .i64 20) ∧ W1.cell? ⟨T, 2, none⟩ = some (.int .i64 l) ∧ W1.cell? ⟨T, 3, none⟩ = some (.bool false) := ⟨HT.out.cell (i := 0) (by omega), HT.out.cell (i := 1) (by omega), HT.out.cell (i := 2) (by omega), HT.out.cell (i := 3) (by omega)⟩
      have lT : T < W1.heap.size := HT.out.lt
      have g0 := HT.out.frozen 0
      have g1 := HT.out.frozen 1
      have g2 := HT.out.frozen 2
      have g3 := HT.out.frozen 3
      obtain ⟨W2, hw⟩ : ∃ W, W = (((W1.setCell ⟨T, 0, none⟩ (.int .i64 4)).setCell ⟨T, 1, none⟩ (.int .i64 20)).setCell ⟨T, 2, none⟩ (.int .i64 (l - 1))).setCell ⟨T, 3, none⟩ (.bool false) := ⟨_, rfl⟩
      have hm : Mod (fun j => j = T) W1 W2 := by rw [hw]; exact ((((Mod.refl (fun j => j = T) W1).setCell (p := ⟨T, 0, none⟩) (.inl rfl) _).setCell (p := ⟨T, 1, none⟩) (.inl rfl) _).setCell (p := ⟨T, 2, none⟩) (.inl rfl) _).setCell (p := ⟨T, 3, none⟩) (.inl rfl) _
      have HT2 : Hid (Own W2 T 61 4 (csF 4 20 (l - 1))) := Lib.hid (by rw [hw]; exact ((((HT.out.set 0 _).set 1 _).set 2 _).set 3 _).congr (fun i hi => by match i, hi with | 0, _ => rfl | 1, _ => rfl | 2, _ => rfl | 3, _ => rfl))
      have HC2 : Hid (W2.cell? ⟨C, 0, none⟩ = some (.string ⟨#[]⟩) ∧ W2.cell? ⟨C, 1, none⟩ = some (.int .i64 0) ∧ W2.cell? ⟨C, 2, none⟩ = some (.int .i64 1) ∧ W2.cell? ⟨C, 3, none⟩ = some (.int .i64 6) ∧ W2.cell? ⟨C, 4, none⟩ = some (.int .i64 32) ∧ W2.cell? ⟨C, 5, none⟩ = some (.int .i64 1) ∧ W2.cell? ⟨C, 6, none⟩ = some (.int .i64 6) ∧ W2.cell? ⟨C, 7, none⟩ = some (.int .i64 0)) := Lib.hid ⟨(hm.cell (zb c0) (by show ¬ C = T; exact HNE.out.1)).trans c0, (hm.cell (zb c1) (by show ¬ C = T; exact HNE.out.1)).trans c1, (hm.cell (zb c2) (by show ¬ C = T; exact HNE.out.1)).trans c2, (hm.cell (zb c3) (by show ¬ C = T; exact HNE.out.1)).trans c3, (hm.cell (zb c4) (by show ¬ C = T; exact HNE.out.1)).trans c4, (hm.cell (zb c5) (by show ¬ C = T; exact HNE.out.1)).trans c5, (hm.cell (zb c6) (by show ¬ C = T; exact HNE.out.1)).trans c6, (hm.cell (zb c7) (by show ¬ C = T; exact HNE.out.1)).trans c7⟩
      have HB2 : Hid (Below w.heap.size w W2) := Lib.hid (HB.out.trans (hm.below HB.out.size (fun j _ e => by have := HNE.out.2; omega)))
      have HWW := Lib.hid hw.symm
      clear hw hm
      have HT3 : Hid (Own W2 T 61 4 (csF 4 20 (12 - ((k + 1 : Nat) : Int)))) := Lib.hid (by rw [show 12 - ((k + 1 : Nat) : Int) = l - 1 by have := HL.out; omega]; exact HT2.out)
      go_upto_region 7 with (fail)
      rw [HWW.out]
      clear HWW g0 g1 g2 g3 HC HT HB
      clear c0 c1 c2 c3 c4 c5 c6 c7 lC t0 t1 t2 t3 lT
      go_wp2_with fail
      go_roundg (11 - (k + 1))
      case measure => omega
      case rel => exact ⟨k + 1, by go_num, by omega, by omega, HT3, HC2, HB2⟩
    · have hltz : ¬ (k : Int) < 11 := by omega
      have hk11 : k = 11 := by omega
      have HT : Hid (Own wr T 61 4 (csF 4 20 1)) := Lib.hid (by have h := HT.out; rw [show 12 - (k : Int) = 1 by omega] at h; exact h)
      obtain ⟨c0, c1, c2, c3, c4, c5, c6, c7⟩ : wr.cell? ⟨C, 0, none⟩ = some (.string ⟨#[]⟩) ∧ wr.cell? ⟨C, 1, none⟩ = some (.int .i64 0) ∧ wr.cell? ⟨C, 2, none⟩ = some (.int .i64 1) ∧ wr.cell? ⟨C, 3, none⟩ = some (.int .i64 6) ∧ wr.cell? ⟨C, 4, none⟩ = some (.int .i64 32) ∧ wr.cell? ⟨C, 5, none⟩ = some (.int .i64 1) ∧ wr.cell? ⟨C, 6, none⟩ = some (.int .i64 6) ∧ wr.cell? ⟨C, 7, none⟩ = some (.int .i64 0) := HC.out
      have lC : C < wr.heap.size := zb c0
      obtain ⟨t0, t1, t2, t3⟩ : wr.cell? ⟨T, 0, none⟩ = some (.int .i64 4) ∧ wr.cell? ⟨T, 1, none⟩ = some (.int .i64 20) ∧ wr.cell? ⟨T, 2, none⟩ = some (.int .i64 1) ∧ wr.cell? ⟨T, 3, none⟩ = some (.bool false) := ⟨HT.out.cell (i := 0) (by omega), HT.out.cell (i := 1) (by omega), HT.out.cell (i := 2) (by omega), HT.out.cell (i := 3) (by omega)⟩
      have lT : T < wr.heap.size := HT.out.lt
      go_wp2_with fail
      refine (chAllowed_on ⟨#[]⟩ 0 1 6 32 1 6 0 20 1 wr HCO.out (by omega) (by omega) (by omega) (by omega)).mono ?_
      rintro e W1 ⟨rfl, hb1⟩
      have HT := Lib.hid (HT.out.keep hb1 HT.out.lt)
      have HC : Hid (W1.cell? ⟨C, 0, none⟩ = some (.string ⟨#[]⟩) ∧ W1.cell? ⟨C, 1, none⟩ = some (.int .i64 0) ∧ W1.cell? ⟨C, 2, none⟩ = some (.int .i64 1) ∧ W1.cell? ⟨C, 3, none⟩ = some (.int .i64 6) ∧ W1.cell? ⟨C, 4, none⟩ = some (.int .i64 32) ∧ W1.cell? ⟨C, 5, none⟩ = some (.int .i64 1) ∧ W1.cell? ⟨C, 6, none⟩ = some (.int .i64 6) ∧ W1.cell? ⟨C, 7, none⟩ = some (.int .i64 0)) := Lib.hid ⟨(hb1.cell (zb c0)).trans c0, (hb1.cell (zb c1)).trans c1, (hb1.cell (zb c2)).trans c2, (hb1.cell (zb c3)).trans c3, (hb1.cell (zb c4)).trans c4, (hb1.cell (zb c5)).trans c5, (hb1.cell (zb c6)).trans c6, (hb1.cell (zb c7)).trans c7⟩
      have HB := Lib.hid (below_then HB.out hb1)
      clear hb1
      clear c0 c1 c2 c3 c4 c5 c6 c7 lC t0 t1 t2 t3 lT
      obtain ⟨c0, c1, c2, c3, c4, c5, c6, c7⟩ : W1.cell? ⟨C, 0, none⟩ = some (.string ⟨#[]⟩) ∧ W1.cell? ⟨C, 1, none⟩ = some (.int .i64 0) ∧ W1.cell? ⟨C, 2, none⟩ = some (.int .i64 1) ∧ W1.cell? ⟨C, 3, none⟩ = some (.int .i64 6) ∧ W1.cell? ⟨C, 4, none⟩ = some (.int .i64 32) ∧ W1.cell? ⟨C, 5, none⟩ = some (.int .i64 1) ∧ W1.cell? ⟨C, 6, none⟩ = some (.int .i64 6) ∧ W1.cell? ⟨C, 7, none⟩ = some (.int .i64 0) := HC.out
      have lC : C < W1.heap.size := zb c0
      obtain ⟨t0, t1, t2, t3⟩ : W1.cell? ⟨T, 0, none⟩ = some (.int .i64 4) ∧ W1.cell? ⟨T, 1, none⟩ = some (.int .i64 20) ∧ W1.cell? ⟨T, 2, none⟩ = some (.int .i64 1) ∧ W1.cell? ⟨T, 3, none⟩ = some (.bool false) := ⟨HT.out.cell (i := 0) (by omega), HT.out.cell (i := 1) (by omega), HT.out.cell (i := 2) (by omega), HT.out.cell (i := 3) (by omega)⟩
      have lT : T < W1.heap.size := HT.out.lt
      go_wp2_with fail
      refine (chStep_tock ⟨#[]⟩ 0 1 6 32 1 6 0 20 W1 HCO.out (by omega) (by omega) ((HB.out.cell (zb HG52.out)).trans HG52.out)).mono ?_
      rintro e W2 ⟨rfl, hb2⟩
      have HT := Lib.hid (HT.out.keep hb2 HT.out.lt)
      have HC : Hid (W2.cell? ⟨C, 0, none⟩ = some (.string ⟨#[]⟩) ∧ W2.cell? ⟨C, 1, none⟩ = some (.int .i64 0) ∧ W2.cell? ⟨C, 2, none⟩ = some (.int .i64 1) ∧ W2.cell? ⟨C, 3, none⟩ = some (.int .i64 6) ∧ W2.cell? ⟨C, 4, none⟩ = some (.int .i64 32) ∧ W2.cell? ⟨C, 5, none⟩ = some (.int .i64 1) ∧ W2.cell? ⟨C, 6, none⟩ = some (.int .i64 6) ∧ W2.cell? ⟨C, 7, none⟩ = some (.int .i64 0)) := Lib.hid ⟨(hb2.cell (zb c0)).trans c0, (hb2.cell (zb c1)).trans c1, (hb2.cell (zb c2)).trans c2, (hb2.cell (zb c3)).trans c3, (hb2.cell (zb c4)).trans c4, (hb2.cell (zb c5)).trans c5, (hb2.cell (zb c6)).trans c6, (hb2.cell (zb c7)).trans c7⟩
      have HB := Lib.hid (below_then HB.out hb2)
      clear hb2
      clear c0 c1 c2 c3 c4 c5 c6 c7 lC t0 t1 t2 t3 lT
      obtain ⟨c0, c1, c2, c3, c4, c5, c6, c7⟩ : W2.cell? ⟨C, 0, none⟩ = some (.string ⟨#[]⟩) ∧ W2.cell? ⟨C, 1, none⟩ = some (.int .i64 0) ∧ W2.cell? ⟨C, 2, none⟩ = some (.int .i64 1) ∧ W2.cell? ⟨C, 3, none⟩ = some (.int .i64 6) ∧ W2.cell? ⟨C, 4, none⟩ = some (.int .i64 32) ∧ W2.cell? ⟨C, 5, none⟩ = some (.int .i64 1) ∧ W2.cell? ⟨C, 6, none⟩ = some (.int .i64 6) ∧ W2.cell? ⟨C, 7, none⟩ = some (.int .i64 0) := HC.out
      have lC : C < W2.heap.size := zb c0
      obtain ⟨t0, t1, t2, t3⟩ : W2.cell? ⟨T, 0, none⟩ = some (.int .i64 4) ∧ W2.cell? ⟨T, 1, none⟩ = some (.int .i64 20) ∧ W2.cell? ⟨T, 2, none⟩ = some (.int .i64 1) ∧ W2.cell? ⟨T, 3, none⟩ = some (.bool false) := ⟨HT.out.cell (i := 0) (by omega), HT.out.cell (i := 1) (by omega), HT.out.cell (i := 2) (by omega), HT.out.cell (i := 3) (by omega)⟩
      have lT : T < W2.heap.size := HT.out.lt
      have g0 := HT.out.frozen 0
      have g1 := HT.out.frozen 1
      have g2 := HT.out.frozen 2
      have g3 := HT.out.frozen 3
      obtain ⟨W3, hw⟩ : ∃ W, W = (((W2.setCell ⟨T, 0, none⟩ (.int .i64 4)).setCell ⟨T, 1, none⟩ (.int .i64 0)).setCell ⟨T, 2, none⟩ (.int .i64 0)).setCell ⟨T, 3, none⟩ (.bool false) := ⟨_, rfl⟩
      have hm : Mod (fun j => j = T) W2 W3 := by rw [hw]; exact ((((Mod.refl (fun j => j = T) W2).setCell (p := ⟨T, 0, none⟩) (.inl rfl) _).setCell (p := ⟨T, 1, none⟩) (.inl rfl) _).setCell (p := ⟨T, 2, none⟩) (.inl rfl) _).setCell (p := ⟨T, 3, none⟩) (.inl rfl) _
      have HT2 : Hid (Own W3 T 61 4 (csF 4 0 0)) := Lib.hid (by rw [hw]; exact ((((HT.out.set 0 _).set 1 _).set 2 _).set 3 _).congr (fun i hi => by match i, hi with | 0, _ => rfl | 1, _ => rfl | 2, _ => rfl | 3, _ => rfl))
      have HC2 : Hid (W3.cell? ⟨C, 0, none⟩ = some (.string ⟨#[]⟩) ∧ W3.cell? ⟨C, 1, none⟩ = some (.int .i64 0) ∧ W3.cell? ⟨C, 2, none⟩ = some (.int .i64 1) ∧ W3.cell? ⟨C, 3, none⟩ = some (.int .i64 6) ∧ W3.cell? ⟨C, 4, none⟩ = some (.int .i64 32) ∧ W3.cell? ⟨C, 5, none⟩ = some (.int .i64 1) ∧ W3.cell? ⟨C, 6, none⟩ = some (.int .i64 6) ∧ W3.cell? ⟨C, 7, none⟩ = some (.int .i64 0)) := Lib.hid ⟨(hm.cell (zb c0) (by show ¬ C = T; exact HNE.out.1)).trans c0, (hm.cell (zb c1) (by show ¬ C = T; exact HNE.out.1)).trans c1, (hm.cell (zb c2) (by show ¬ C = T; exact HNE.out.1)).trans c2, (hm.cell (zb c3) (by show ¬ C = T; exact HNE.out.1)).trans c3, (hm.cell (zb c4) (by show ¬ C = T; exact HNE.out.1)).trans c4, (hm.cell (zb c5) (by show ¬ C = T; exact HNE.out.1)).trans c5, (hm.cell (zb c6) (by show ¬ C = T; exact HNE.out.1)).trans c6, (hm.cell (zb c7) (by show ¬ C = T; exact HNE.out.1)).trans c7⟩
      have HB2 : Hid (Below w.heap.size w W3) := Lib.hid (HB.out.trans (hm.below HB.out.size (fun j _ e => by have := HNE.out.2; omega)))
      have HWW := Lib.hid hw.symm
      clear hw hm
      go_upto_region 10 with (fail)
      rw [HWW.out]
      clear HWW g0 g1 g2 g3 HC HT HB
      clear c0 c1 c2 c3 c4 c5 c6 c7 lC t0 t1 t2 t3 lT
      have HC := HC2
      have HT := HT2
      have HB := HB2
      clear HC2 HT2 HB2
      obtain ⟨c0, c1, c2, c3, c4, c5, c6, c7⟩ : W3.cell? ⟨C, 0, none⟩ = some (.string ⟨#[]⟩) ∧ W3.cell? ⟨C, 1, none⟩ = some (.int .i64 0) ∧ W3.cell? ⟨C, 2, none⟩ = some (.int .i64 1) ∧ W3.cell? ⟨C, 3, none⟩ = some (.int .i64 6) ∧ W3.cell? ⟨C, 4, none⟩ = some (.int .i64 32) ∧ W3.cell? ⟨C, 5, none⟩ = some (.int .i64 1) ∧ W3.cell? ⟨C, 6, none⟩ = some (.int .i64 6) ∧ W3.cell? ⟨C, 7, none⟩ = some (.int .i64 0) := HC.out
      have lC : C < W3.heap.size := zb c0
      obtain ⟨t0, t1, t2, t3⟩ : W3.cell? ⟨T, 0, none⟩ = some (.int .i64 4) ∧ W3.cell? ⟨T, 1, none⟩ = some (.int .i64 0) ∧ W3.cell? ⟨T, 2, none⟩ = some (.int .i64 0) ∧ W3.cell? ⟨T, 3, none⟩ = some (.bool false) := ⟨HT.out.cell (i := 0) (by omega), HT.out.cell (i := 1) (by omega), HT.out.cell (i := 2) (by omega), HT.out.cell (i := 3) (by omega)⟩
      have lT : T < W3.heap.size := HT.out.lt
      go_wp2_with fail
      refine (chAllowed_off ⟨#[]⟩ 0 1 6 32 1 6 0 W3 HCO.out).mono ?_
      rintro e W4 ⟨rfl, hb4⟩
      have HB := Lib.hid (below_then HB.out hb4)
      clear hb4
      clear c0 c1 c2 c3 c4 c5 c6 c7 lC t0 t1 t2 t3 lT
      go_wp2_with fail
      go_ret
      exact ⟨rfl, HB.out⟩
end Go.Proofs.YtkbbapefgifagaaGreatDoor
/-
Two controllers: package ramp.
-/
namespace Go.Proofs.YtkbbapefgifagaaGreatDoor
open Go.RowKit
set_option linter.unusedVariables false
set_option linter.unusedSimpArgs false
structure Rmp where
  amp : Int
  snc : Int
/-- The greatest level of these chargers that is at most a current. -/
def belV (n : Int) : Int := if n < 6 then 0 else min n 32 - (min n 32 - 6) % 2
structure RmOk (r : Rmp) : Prop where
  a : r.amp = 0 ∨ 6 ≤ r.amp ∧ r.amp ≤ 32 ∧ r.amp % 2 = 0
  s1 : 0 ≤ r.snc
  s2 : r.snc ≤ 1000000
theorem belV_ok {r : Rmp} (h : RmOk r) : belV r.amp = r.amp := by
  rcases h.a with h | h
  · rw [h]; rfl
  · unfold belV; rw [if_neg (by omega)]; omega
theorem belV_le {n : Int} (h : 0 ≤ n) : 0 ≤ belV n ∧ belV n ≤ n ∧ (belV n = 0 ∨ 6 ≤ belV n ∧ belV n ≤ 32 ∧ belV n % 2 = 0) := by
  unfold belV
  split <;> omega
set_option maxRecDepth 100000 in
theorem rmBelow_any (nm : ByteArray) (n : Int) (w : World) (h0 : 0 ≤ n) (h1 : n ≤ 80) : Calls Tryz.prog 68 #[.agg #[.string nm, .int .i64 0, .int .i64 1, .int .i64 6, .int .i64 32, .int .i64 2, .int .i64 0, .int .i64 0], .int .i64 n] w fun e w' => e = .returned (.int .i64 (belV n)) ∧ Below w.heap.size w w' := by
  obtain ⟨R, hR⟩ : ∃ R, R = belV n := ⟨_, rfl⟩
  rw [← hR]
  have HR := Lib.hid hR
  clear hR
  by_cases h6 : n < 6
  · have hr : R = 0 := by rw [HR.out]; unfold belV; rw [if_pos h6]
    subst hr
    go_enter Tryz.func68, Tryz.ntmps68
    go_wp2_with fail
    go_ret
    exact ⟨rfl, (Below.refl _ _).alloc (Nat.le_refl _) _⟩
  · obtain ⟨t, ht⟩ : ∃ t, t = min n 32 := ⟨_, rfl⟩
    have htb : 6 ≤ t ∧ t ≤ 32 := by omega
    obtain ⟨ht1, ht2⟩ := htb
    have hr : R = t - (t - 6) % 2 := by rw [HR.out]; unfold belV; rw [if_neg h6, ← ht]
    have w1' : IntKind.i64.wrap (t - 6) = t - 6 := IntWalk.i64_in _ (by omega)
    have hm : (t - 6).tmod 2 = (t - 6) % 2 := Int.tmod_eq_emod_of_nonneg (by omega)
    have w2' : IntKind.i64.wrap ((t - 6) % 2) = (t - 6) % 2 := IntWalk.i64_in _ (by omega)
    have w3' : IntKind.i64.wrap (t - (t - 6) % 2) = t - (t - 6) % 2 := IntWalk.i64_in _ (by omega)
    have HRR := Lib.hid hr
    have HTT := Lib.hid ht
    clear hr ht
    by_cases h32 : n < 32
    · have e : t = n := by have := HTT.out; omega
      subst e
      go_enter Tryz.func68, Tryz.ntmps68
      go_wp2_with fail
      go_ret
      exact ⟨ret_int HRR.out.symm, (Below.refl _ _).alloc (Nat.le_refl _) _⟩
    · have e : t = 32 := by have := HTT.out; omega
      subst e
      go_enter Tryz.func68, Tryz.ntmps68
      go_wp2_with fail
      all_goals go_ret
      all_goals exact ⟨ret_int (by have := HRR.out; have := HTT.out; omega), (Below.refl _ _).alloc (Nat.le_refl _) _⟩
set_option maxRecDepth 100000 in
set_option maxHeartbeats 8000000 in
theorem rmValid_ok (nm : ByteArray) (r : Rmp) (w : World) (h : RmOk r) : Calls Tryz.prog 63 #[.agg #[.string nm, .int .i64 0, .int .i64 1, .int .i64 6, .int .i64 32, .int .i64 2, .int .i64 0, .int .i64 0], .agg #[.int .i64 r.amp, .int .i64 r.snc]] w fun e w' => e = .returned (.bool true) ∧ Below w.heap.size w w' := by
  have HRO : Hid (0 ≤ r.amp ∧ r.amp ≤ 80 ∧ belV r.amp = r.amp) := Lib.hid ⟨by rcases h.a with h | h <;> omega, by rcases h.a with h | h <;> omega, belV_ok h⟩
  obtain ⟨hs1, hs2⟩ : 0 ≤ r.snc ∧ r.snc ≤ 1000000 := ⟨h.s1, h.s2⟩
  have ha1 : 0 ≤ r.amp := HRO.out.1
  obtain ⟨W0, hW0⟩ : ∃ W, W = (w.alloc (.cells #[.string nm, .int .i64 0, .int .i64 1, .int .i64 6, .int .i64 32, .int .i64 2, .int .i64 0, .int .i64 0] 59)).alloc (.cells #[.int .i64 r.amp, .int .i64 r.snc] 76) := ⟨_, rfl⟩
  obtain ⟨C, hC⟩ : ∃ S, S = w.heap.size := ⟨_, rfl⟩
  obtain ⟨A, hA⟩ : ∃ S, S = w.heap.size + 1 := ⟨_, rfl⟩
  have hb0 : Below w.heap.size w W0 := by rw [hW0]; exact ((Below.refl _ _).alloc (Nat.le_refl _) _).alloc (by simp) _
  obtain ⟨c0, c1, c2, c3, c4, c5, c6, c7⟩ : W0.cell? ⟨C, 0, none⟩ = some (.string nm) ∧ W0.cell? ⟨C, 1, none⟩ = some (.int .i64 0) ∧ W0.cell? ⟨C, 2, none⟩ = some (.int .i64 1) ∧ W0.cell? ⟨C, 3, none⟩ = some (.int .i64 6) ∧ W0.cell? ⟨C, 4, none⟩ = some (.int .i64 32) ∧ W0.cell? ⟨C, 5, none⟩ = some (.int .i64 2) ∧ W0.cell? ⟨C, 6, none⟩ = some (.int .i64 0) ∧ W0.cell? ⟨C, 7, none⟩ = some (.int .i64 0) := by rw [hW0, hC]; exact ⟨by go_simp, by go_simp, by go_simp, by go_simp, by go_simp, by go_simp, by go_simp, by go_simp⟩
  obtain ⟨a0, a1⟩ : W0.cell? ⟨A, 0, none⟩ = some (.int .i64 r.amp) ∧ W0.cell? ⟨A, 1, none⟩ = some (.int .i64 r.snc) := by rw [hW0, hA]; exact ⟨by go_simp, by go_simp⟩
  have lC : C < W0.heap.size := zb c0
  have lA : A < W0.heap.size := zb a0
  have HB := Lib.hid hb0
  have HW0 := Lib.hid (And.intro hW0.symm (And.intro hC.symm hA.symm))
  clear hW0 hb0 hC hA h
  go_enter Tryz.func63, Tryz.ntmps63
  go_upto_region 1 with (fail)
  try simp only [World.size_alloc]
  rw [HW0.out.1, HW0.out.2.2, HW0.out.2.1]
  clear HW0
  refine region_z (S := fun w' => Below W0.heap.size W0 w') [] (by kernel_rfl) ((Below.refl _ _).drew) (fun hHeld => ?_)
  refine zt (i := 0) (v := .agg #[.string nm, .int .i64 0, .int .i64 1, .int .i64 6, .int .i64 32, .int .i64 2, .int .i64 0, .int .i64 0]) [] (fun w' hSw => ?_) hHeld ?_
  · have e0 := (hSw.cell (p := ⟨C, 0, none⟩) lC).trans c0
    have e1 := (hSw.cell (p := ⟨C, 1, none⟩) lC).trans c1
    have e2 := (hSw.cell (p := ⟨C, 2, none⟩) lC).trans c2
    have e3 := (hSw.cell (p := ⟨C, 3, none⟩) lC).trans c3
    have e4 := (hSw.cell (p := ⟨C, 4, none⟩) lC).trans c4
    have e5 := (hSw.cell (p := ⟨C, 5, none⟩) lC).trans c5
    have e6 := (hSw.cell (p := ⟨C, 6, none⟩) lC).trans c6
    have e7 := (hSw.cell (p := ⟨C, 7, none⟩) lC).trans c7
    have lC' : C < w'.heap.size := Nat.lt_of_lt_of_le lC hSw.size
    clear hHeld hSw
    go_simp
  simp only [Act.put, zl0, zl1, zl2, zl3, zl4, zl5]
  refine zo 1 (fun K' hK => ?_)
  go_simp
  refine (chStart_any _).mono ?_
  rintro e wk ⟨rfl, hbk⟩
  refine hK.out _ _ ?_ (fun hHeld' => ?_)
  · exact below_then hHeld hbk
  clear hK K' hHeld hbk
  have hHeld := hHeld'
  clear hHeld'
  try simp only [Act.put, zl0, zl1, zl2, zl3, zl4, zl5]
  refine zo 2 (fun K' hK => ?_)
  go_simp
  refine (chValid_start nm 0 1 6 32 2 0 0 _ ⟨by omega, by omega, by omega, by omega, by omega, by omega, by omega, .inl rfl⟩).mono ?_
  rintro e wl ⟨rfl, hbl⟩
  refine hK.out _ _ ?_ (fun hHeld' => ?_)
  · exact below_then hHeld hbl
  clear hK K' hHeld hbl
  have hHeld := hHeld'
  clear hHeld'
  try simp only [Act.put, zl0, zl1, zl2, zl3, zl4, zl5]
  refine zt (i := 3) (v := .bool false) [] (fun w' hSw => ?_) hHeld ?_
  · clear hHeld hSw
    go_simp
  simp only [Act.put, zl0, zl1, zl2, zl3, zl4, zl5]
  refine zt (i := 4) (v := .bool false) [] (fun w' hSw => ?_) hHeld ?_
  · clear hHeld hSw
    go_simp
  simp only [Act.put, zl0, zl1, zl2, zl3, zl4, zl5]
  refine zt (i := 5) (v := .pointer (some ⟨A, 1, none⟩)) [] (fun w' hSw => ?_) hHeld ?_
  · clear hHeld hSw
    go_simp
  simp only [Act.put, zl0, zl1, zl2, zl3, zl4, zl5]
  refine zt (i := 6) (v := .int .i64 r.snc) [] (fun w' hSw => ?_) hHeld ?_
  · have e1 := (hSw.cell (p := ⟨A, 1, none⟩) lA).trans a1
    have lA' : A < w'.heap.size := Nat.lt_of_lt_of_le lA hSw.size
    clear hHeld hSw
    go_simp
  simp only [Act.put, zl0, zl1, zl2, zl3, zl4, zl5]
  refine zt (i := 7) (v := .bool false) [] (fun w' hSw => ?_) hHeld ?_
  · clear hHeld hSw
    go_simp
    first | done | omega
  simp only [Act.put, zl0, zl1, zl2, zl3, zl4, zl5]
  refine zt (i := 8) (v := .bool false) [] (fun w' hSw => ?_) hHeld ?_
  · clear hHeld hSw
    go_simp
  simp only [Act.put, zl0, zl1, zl2, zl3, zl4, zl5]
  refine zt (i := 9) (v := .bool false) [] (fun w' hSw => ?_) hHeld ?_
  · clear hHeld hSw
    go_simp
  simp only [Act.put, zl0, zl1, zl2, zl3, zl4, zl5]
  refine zt (i := 10) (v := .pointer (some ⟨A, 1, none⟩)) [] (fun w' hSw => ?_) hHeld ?_
  · clear hHeld hSw
    go_simp
  simp only [Act.put, zl0, zl1, zl2, zl3, zl4, zl5]
  refine zt (i := 11) (v := .int .i64 r.snc) [] (fun w' hSw => ?_) hHeld ?_
  · have e1 := (hSw.cell (p := ⟨A, 1, none⟩) lA).trans a1
    have lA' : A < w'.heap.size := Nat.lt_of_lt_of_le lA hSw.size
    clear hHeld hSw
    go_simp
  simp only [Act.put, zl0, zl1, zl2, zl3, zl4, zl5]
  refine zt (i := 12) (v := .bool false) [] (fun w' hSw => ?_) hHeld ?_
  · clear hHeld hSw
    go_simp
    first | done | omega
  simp only [Act.put, zl0, zl1, zl2, zl3, zl4, zl5]
  refine zt (i := 13) (v := .bool false) [] (fun w' hSw => ?_) hHeld ?_
  · clear hHeld hSw
    go_simp
  simp only [Act.put, zl0, zl1, zl2, zl3, zl4, zl5]
  refine zt (i := 14) (v := .bool false) [] (fun w' hSw => ?_) hHeld ?_
  · clear hHeld hSw
    go_simp
  simp only [Act.put, zl0, zl1, zl2, zl3, zl4, zl5]
  refine zt (i := 15) (v := .pointer (some ⟨A, 0, none⟩)) [] (fun w' hSw => ?_) hHeld ?_
  · clear hHeld hSw
    go_simp
  simp only [Act.put, zl0, zl1, zl2, zl3, zl4, zl5]
  refine zt (i := 16) (v := .int .i64 r.amp) [] (fun w' hSw => ?_) hHeld ?_
  · have e1 := (hSw.cell (p := ⟨A, 0, none⟩) lA).trans a0
    have lA' : A < w'.heap.size := Nat.lt_of_lt_of_le lA hSw.size
    clear hHeld hSw
    go_simp
  simp only [Act.put, zl0, zl1, zl2, zl3, zl4, zl5]
  refine zt (i := 17) (v := .bool false) [] (fun w' hSw => ?_) hHeld ?_
  · clear hHeld hSw
    go_simp
    first | done | omega
  simp only [Act.put, zl0, zl1, zl2, zl3, zl4, zl5]
  refine zt (i := 18) (v := .bool false) [] (fun w' hSw => ?_) hHeld ?_
  · clear hHeld hSw
    go_simp
  simp only [Act.put, zl0, zl1, zl2, zl3, zl4, zl5]
  refine wpAnyZ_done (by kernel_rfl) ?_ _
  have HB := Lib.hid (below_then HB.out hHeld)
  obtain ⟨d0, d1, d2, d3, d4, d5, d6, d7⟩ : wl.cell? ⟨C, 0, none⟩ = some (.string nm) ∧ wl.cell? ⟨C, 1, none⟩ = some (.int .i64 0) ∧ wl.cell? ⟨C, 2, none⟩ = some (.int .i64 1) ∧ wl.cell? ⟨C, 3, none⟩ = some (.int .i64 6) ∧ wl.cell? ⟨C, 4, none⟩ = some (.int .i64 32) ∧ wl.cell? ⟨C, 5, none⟩ = some (.int .i64 2) ∧ wl.cell? ⟨C, 6, none⟩ = some (.int .i64 0) ∧ wl.cell? ⟨C, 7, none⟩ = some (.int .i64 0) := ⟨(hHeld.cell (zb c0)).trans c0, (hHeld.cell (zb c1)).trans c1, (hHeld.cell (zb c2)).trans c2, (hHeld.cell (zb c3)).trans c3, (hHeld.cell (zb c4)).trans c4, (hHeld.cell (zb c5)).trans c5, (hHeld.cell (zb c6)).trans c6, (hHeld.cell (zb c7)).trans c7⟩
  have b0 := (hHeld.cell (zb a0)).trans a0
  have lC' : C < wl.heap.size := zb d0
  have lA' : A < wl.heap.size := zb b0
  clear hHeld c0 c1 c2 c3 c4 c5 c6 c7 a0 a1 lC lA
  go_upto_region 3 with (fail)
  refine region_z (S := fun w' => Below wl.heap.size wl w') [] (by kernel_rfl) ((Below.refl _ _).drew) (fun hHeld => ?_)
  refine zt (i := 0) (v := .agg #[.string nm, .int .i64 0, .int .i64 1, .int .i64 6, .int .i64 32, .int .i64 2, .int .i64 0, .int .i64 0]) [] (fun w' hSw => ?_) hHeld ?_
  · have e0 := (hSw.cell (p := ⟨C, 0, none⟩) lC').trans d0
    have e1 := (hSw.cell (p := ⟨C, 1, none⟩) lC').trans d1
    have e2 := (hSw.cell (p := ⟨C, 2, none⟩) lC').trans d2
    have e3 := (hSw.cell (p := ⟨C, 3, none⟩) lC').trans d3
    have e4 := (hSw.cell (p := ⟨C, 4, none⟩) lC').trans d4
    have e5 := (hSw.cell (p := ⟨C, 5, none⟩) lC').trans d5
    have e6 := (hSw.cell (p := ⟨C, 6, none⟩) lC').trans d6
    have e7 := (hSw.cell (p := ⟨C, 7, none⟩) lC').trans d7
    have lC'' : C < w'.heap.size := Nat.lt_of_lt_of_le lC' hSw.size
    clear hHeld hSw
    go_simp
  simp only [Act.put, zl0, zl1, zl2, zl3, zl4, zl5]
  refine zt (i := 1) (v := .agg #[.string nm, .int .i64 0, .int .i64 1, .int .i64 6, .int .i64 32, .int .i64 2, .int .i64 0, .int .i64 0]) [] (fun w' hSw => ?_) hHeld ?_
  · clear hHeld hSw
    go_simp
  simp only [Act.put, zl0, zl1, zl2, zl3, zl4, zl5]
  refine zt (i := 2) (v := .pointer (some ⟨A, 0, none⟩)) [] (fun w' hSw => ?_) hHeld ?_
  · clear hHeld hSw
    go_simp
  simp only [Act.put, zl0, zl1, zl2, zl3, zl4, zl5]
  refine zt (i := 3) (v := .int .i64 r.amp) [] (fun w' hSw => ?_) hHeld ?_
  · have e1 := (hSw.cell (p := ⟨A, 0, none⟩) lA').trans b0
    have lA'' : A < w'.heap.size := Nat.lt_of_lt_of_le lA' hSw.size
    clear hHeld hSw
    go_simp
  simp only [Act.put, zl0, zl1, zl2, zl3, zl4, zl5]
  refine zt (i := 5) (v := .pointer (some ⟨A, 0, none⟩)) [] (fun w' hSw => ?_) hHeld ?_
  · clear hHeld hSw
    go_simp
  simp only [Act.put, zl0, zl1, zl2, zl3, zl4, zl5]
  refine zt (i := 6) (v := .int .i64 r.amp) [] (fun w' hSw => ?_) hHeld ?_
  · have e1 := (hSw.cell (p := ⟨A, 0, none⟩) lA').trans b0
    have lA'' : A < w'.heap.size := Nat.lt_of_lt_of_le lA' hSw.size
    clear hHeld hSw
    go_simp
  simp only [Act.put, zl0, zl1, zl2, zl3, zl4, zl5]
  refine zo 4 (fun K' hK => ?_)
  go_simp
  refine (rmBelow_any nm r.amp _ HRO.out.1 HRO.out.2.1).mono ?_
  rintro e wm ⟨rfl, hbm⟩
  refine hK.out _ _ ?_ (fun hHeld' => ?_)
  · exact below_then hHeld hbm
  clear hK K' hHeld hbm
  have hHeld := hHeld'
  clear hHeld'
  try simp only [Act.put, zl0, zl1, zl2, zl3, zl4, zl5]
  refine zt (i := 7) (v := .bool true) [] (fun w' hSw => ?_) hHeld ?_
  · have hbl := HRO.out.2.2
    clear hHeld hSw
    go_simp
    first | done | simpa using hbl | omega
  simp only [Act.put, zl0, zl1, zl2, zl3, zl4, zl5]
  refine zt (i := 8) (v := .bool true) [] (fun w' hSw => ?_) hHeld ?_
  · clear hHeld hSw
    go_simp
  simp only [Act.put, zl0, zl1, zl2, zl3, zl4, zl5]
  refine wpAnyZ_done (by kernel_rfl) ?_ _
  go_wp2_with fail
  go_ret
  exact ⟨rfl, below_then HB.out hHeld⟩
theorem rmIndex_any (q : Bool) (w : World) : Calls Tryz.prog 73 #[.bool q] w fun e w' => e = .returned (.int .i64 ((if q then 1 else 0 : Nat) : Int)) ∧ w' = w := by
  cases q <;> go_enter Tryz.func73, Tryz.ntmps73
  all_goals
    go_wp2_with fail
    go_ret
    exact ⟨rfl, rfl⟩
end Go.Proofs.YtkbbapefgifagaaGreatDoor
