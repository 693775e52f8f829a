/-
Two controllers: charger.Step and Allowed for a charger that is on.
-/
import Derived.Test.YtkbbapefgifagaaGreatDoorCTwR
namespace Go.Proofs.YtkbbapefgifagaaGreatDoor
open Go.RowKit
set_option linter.unusedVariables false
set_option linter.unusedSimpArgs false
def csF (p a l : Int) : Nat → Value := fun i => if i = 0 then .int .i64 p else if i = 1 then .int .i64 a else if i = 2 then .int .i64 l else .bool false
def evF (p a l : Int) : Nat → Value := fun i => if i = 0 then .int .i64 p else if i = 1 then .int .i64 a else .int .i64 l
theorem load_cs {w : World} {b : Nat} {p a l : Int} (ho : Own w b 61 4 (csF p a l)) : (loadVar 61 ⟨b, 0, none⟩).run Tryz.prog w = .ok (.agg #[.int .i64 p, .int .i64 a, .int .i64 l, .bool false]) w := by
  have h0 : w.cell? ⟨b, 0, none⟩ = some (.int .i64 p) := ho.cell (i := 0) (by omega)
  have h1 : w.cell? ⟨b, 1, none⟩ = some (.int .i64 a) := ho.cell (i := 1) (by omega)
  have h2 : w.cell? ⟨b, 2, none⟩ = some (.int .i64 l) := ho.cell (i := 2) (by omega)
  have h3 : w.cell? ⟨b, 3, none⟩ = some (.bool false) := ho.cell (i := 3) (by omega)
  go_simp
theorem chEvent_lease (nm : ByteArray) (at_ ph mn mx st fb ow : Int) (n m : Int) (w : World) (h : 0 ≤ n ∧ n ≤ mx ∧ 1 ≤ m ∧ m ≤ 1000000) : Calls Tryz.prog 28 #[.agg #[.string nm, .int .i64 at_, .int .i64 ph, .int .i64 mn, .int .i64 mx, .int .i64 st, .int .i64 fb, .int .i64 ow], .agg #[.int .i64 7, .int .i64 n, .int .i64 m]] w fun e w' => e = .returned (.bool true) ∧ Below w.heap.size w w' := by
  obtain ⟨h1, h2, h3, h4⟩ := h
  go_enter Tryz.func28, Tryz.ntmps28
  go_wp2_with (go_at_call 27; refine (chIn_ok _ _ _ _ (by omega) (by omega)).mono ?_; rintro e w' ⟨rfl, hw⟩; subst hw)
  go_ret
  exact ⟨rfl, ((Below.refl _ _).alloc (Nat.le_refl _) _).alloc (by simp) _⟩
theorem chEvent_tick (nm : ByteArray) (at_ ph mn mx st fb ow : Int) (n m : Int) (w : World) : Calls Tryz.prog 28 #[.agg #[.string nm, .int .i64 at_, .int .i64 ph, .int .i64 mn, .int .i64 mx, .int .i64 st, .int .i64 fb, .int .i64 ow], .agg #[.int .i64 8, .int .i64 n, .int .i64 m]] w fun e w' => e = .returned (.bool true) ∧ Below w.heap.size w w' := by
  go_enter Tryz.func28, Tryz.ntmps28
  go_wp2_with fail
  go_ret
  exact ⟨rfl, ((Below.refl _ _).alloc (Nat.le_refl _) _).alloc (by simp) _⟩
theorem chChange_lease (n m : Int) (w : World) : Calls Tryz.prog 30 #[.agg #[.int .i64 7, .int .i64 n, .int .i64 m]] w fun e w' => e = .returned (.func (.func 50) #[] #[.pointer (some ⟨w.heap.size, 0, none⟩)]) ∧ w' = w.alloc (.cells #[.int .i64 7, .int .i64 n, .int .i64 m] 65) := by
  go_enter Tryz.func30, Tryz.ntmps30
  go_wp2_with fail
  go_ret
  exact ⟨rfl, rfl⟩
theorem chChange_tick (w : World) : Calls Tryz.prog 30 #[.agg #[.int .i64 8, .int .i64 0, .int .i64 0]] w fun e w' => e = .returned (.func (.func 51) #[] #[]) ∧ Below w.heap.size w w' := by
  go_enter Tryz.func30, Tryz.ntmps30
  go_wp2_with fail
  go_ret
  exact ⟨rfl, (Below.refl _ _).alloc (Nat.le_refl _) _⟩
set_option maxRecDepth 100000 in
set_option maxHeartbeats 4000000 in
theorem chChange1_any (T E : Nat) (p a l n m : Int) (w : World) (HT : Hid (Own w T 61 4 (csF p a l))) (k1 : w.cell? ⟨E, 1, none⟩ = some (.int .i64 n)) (k2 : w.cell? ⟨E, 2, none⟩ = some (.int .i64 m)) (hne : ¬ E = T) : Calls Tryz.prog 50 #[.pointer (some ⟨T, 0, none⟩), .pointer (some ⟨E, 0, none⟩)] w fun e w' => e = .returned (.tuple #[]) ∧ Own w' T 61 4 (csF p n m) ∧ Mod (fun j => j = T) w w' := by
  have HNE := Lib.hid hne
  have lE : E < w.heap.size := zb k1
  have lT : T < w.heap.size := HT.out.lt
  clear hne
  go_enter Tryz.func50, Tryz.ntmps50
  refine region_z (S := fun w' => Mod (fun j => j = T) w w') [] (by kernel_rfl) ((Mod.refl _ _).drew) (fun hHeld => ?_)
  refine zt (i := 0) (v := .pointer (some ⟨T, 0, none⟩)) [] (fun w' hSw => ?_) hHeld ?_
  · have e1 := (hSw.cell (zb k1) (by show ¬ E = T; exact HNE.out)).trans k1
    have e2 := (hSw.cell (zb k2) (by show ¬ E = T; exact HNE.out)).trans k2
    have lE' : E < w'.heap.size := Nat.lt_of_lt_of_le lE hSw.size
    have lT' : T < w'.heap.size := Nat.lt_of_lt_of_le lT hSw.size
    clear hHeld hSw
    go_simp
  simp only [Act.put, zl0, zl1, zl2, zl3, zl4, zl5]
  refine zt (i := 1) (v := .pointer (some ⟨T, 0, none⟩)) [] (fun w' hSw => ?_) hHeld ?_
  · have e1 := (hSw.cell (zb k1) (by show ¬ E = T; exact HNE.out)).trans k1
    have e2 := (hSw.cell (zb k2) (by show ¬ E = T; exact HNE.out)).trans k2
    have lE' : E < w'.heap.size := Nat.lt_of_lt_of_le lE hSw.size
    have lT' : T < w'.heap.size := Nat.lt_of_lt_of_le lT hSw.size
    clear hHeld hSw
    go_simp
  simp only [Act.put, zl0, zl1, zl2, zl3, zl4, zl5]
  refine zt (i := 2) (v := .pointer (some ⟨E, 1, none⟩)) [] (fun w' hSw => ?_) hHeld ?_
  · have e1 := (hSw.cell (zb k1) (by show ¬ E = T; exact HNE.out)).trans k1
    have e2 := (hSw.cell (zb k2) (by show ¬ E = T; exact HNE.out)).trans k2
    have lE' : E < w'.heap.size := Nat.lt_of_lt_of_le lE hSw.size
    have lT' : T < w'.heap.size := Nat.lt_of_lt_of_le lT hSw.size
    clear hHeld hSw
    go_simp
  simp only [Act.put, zl0, zl1, zl2, zl3, zl4, zl5]
  refine zt (i := 3) (v := .int .i64 n) [] (fun w' hSw => ?_) hHeld ?_
  · have e1 := (hSw.cell (zb k1) (by show ¬ E = T; exact HNE.out)).trans k1
    have e2 := (hSw.cell (zb k2) (by show ¬ E = T; exact HNE.out)).trans k2
    have lE' : E < w'.heap.size := Nat.lt_of_lt_of_le lE hSw.size
    have lT' : T < w'.heap.size := Nat.lt_of_lt_of_le lT hSw.size
    clear hHeld hSw
    go_simp
  simp only [Act.put, zl0, zl1, zl2, zl3, zl4, zl5]
  refine zt (i := 4) (v := .pointer (some ⟨E, 2, none⟩)) [] (fun w' hSw => ?_) hHeld ?_
  · have e1 := (hSw.cell (zb k1) (by show ¬ E = T; exact HNE.out)).trans k1
    have e2 := (hSw.cell (zb k2) (by show ¬ E = T; exact HNE.out)).trans k2
    have lE' : E < w'.heap.size := Nat.lt_of_lt_of_le lE hSw.size
    have lT' : T < w'.heap.size := Nat.lt_of_lt_of_le lT hSw.size
    clear hHeld hSw
    go_simp
  simp only [Act.put, zl0, zl1, zl2, zl3, zl4, zl5]
  refine zt (i := 5) (v := .int .i64 m) [] (fun w' hSw => ?_) hHeld ?_
  · have e1 := (hSw.cell (zb k1) (by show ¬ E = T; exact HNE.out)).trans k1
    have e2 := (hSw.cell (zb k2) (by show ¬ E = T; exact HNE.out)).trans k2
    have lE' : E < w'.heap.size := Nat.lt_of_lt_of_le lE hSw.size
    have lT' : T < w'.heap.size := Nat.lt_of_lt_of_le lT hSw.size
    clear hHeld hSw
    go_simp
  simp only [Act.put, zl0, zl1, zl2, zl3, zl4, zl5]
  refine zt (i := 6) (v := .pointer (some ⟨T, 0, none⟩)) [] (fun w' hSw => ?_) hHeld ?_
  · have e1 := (hSw.cell (zb k1) (by show ¬ E = T; exact HNE.out)).trans k1
    have e2 := (hSw.cell (zb k2) (by show ¬ E = T; exact HNE.out)).trans k2
    have lE' : E < w'.heap.size := Nat.lt_of_lt_of_le lE hSw.size
    have lT' : T < w'.heap.size := Nat.lt_of_lt_of_le lT hSw.size
    clear hHeld hSw
    go_simp
  simp only [Act.put, zl0, zl1, zl2, zl3, zl4, zl5]
  refine zt (i := 7) (v := .pointer (some ⟨T, 1, none⟩)) [] (fun w' hSw => ?_) hHeld ?_
  · have e1 := (hSw.cell (zb k1) (by show ¬ E = T; exact HNE.out)).trans k1
    have e2 := (hSw.cell (zb k2) (by show ¬ E = T; exact HNE.out)).trans k2
    have lE' : E < w'.heap.size := Nat.lt_of_lt_of_le lE hSw.size
    have lT' : T < w'.heap.size := Nat.lt_of_lt_of_le lT hSw.size
    clear hHeld hSw
    go_simp
  simp only [Act.put, zl0, zl1, zl2, zl3, zl4, zl5]
  have y1 := HT.out.cell (i := 1) (by omega)
  have f1 := HT.out.frozen 1
  refine zo 8 (fun K' hK => ?_)
  go_simp
  obtain ⟨W1, hw⟩ : ∃ W, W = (w.setCell ⟨T, 1, none⟩ (.int .i64 n)).drew := ⟨_, rfl⟩
  rw [← hw]
  have hm1 : Mod (fun j => j = T) w W1 := by rw [hw]; exact ((Mod.refl (fun j => j = T) w).setCell (p := ⟨T, 1, none⟩) (.inl rfl) _).drew
  have HT1 : Hid (Own W1 T 61 4 (csF p n l)) := Lib.hid (by rw [hw]; exact ((HT.out.set 1 _).congr (fun i hi => by match i, hi with | 0, _ => rfl | 1, _ => rfl | 2, _ => rfl | 3, _ => rfl)).drew)
  have lT1 : T < W1.heap.size := HT1.out.lt
  clear hw
  refine hK.out _ _ ?_ (fun hHeld' => ?_)
  · exact hm1
  clear hK K' hHeld
  have hHeld := hHeld'
  clear hHeld'
  try simp only [Act.put, zl0, zl1, zl2, zl3, zl4, zl5]
  refine zt (i := 9) (v := .pointer (some ⟨T, 0, none⟩)) [] (fun w' hSw => ?_) hHeld ?_
  · have e1 := (hSw.cell (zb k1) (by show ¬ E = T; exact HNE.out)).trans k1
    have e2 := (hSw.cell (zb k2) (by show ¬ E = T; exact HNE.out)).trans k2
    have lE' : E < w'.heap.size := Nat.lt_of_lt_of_le lE hSw.size
    have lT' : T < w'.heap.size := Nat.lt_of_lt_of_le lT hSw.size
    clear hHeld hSw
    go_simp
  simp only [Act.put, zl0, zl1, zl2, zl3, zl4, zl5]
  refine zt (i := 10) (v := .pointer (some ⟨T, 2, none⟩)) [] (fun w' hSw => ?_) hHeld ?_
  · have e1 := (hSw.cell (zb k1) (by show ¬ E = T; exact HNE.out)).trans k1
    have e2 := (hSw.cell (zb k2) (by show ¬ E = T; exact HNE.out)).trans k2
    have lE' : E < w'.heap.size := Nat.lt_of_lt_of_le lE hSw.size
    have lT' : T < w'.heap.size := Nat.lt_of_lt_of_le lT hSw.size
    clear hHeld hSw
    go_simp
  simp only [Act.put, zl0, zl1, zl2, zl3, zl4, zl5]
  have y2 := HT1.out.cell (i := 2) (by omega)
  have f2 := HT1.out.frozen 2
  refine zo 11 (fun K' hK => ?_)
  go_simp
  obtain ⟨W2, hw⟩ : ∃ W, W = W1.setCell ⟨T, 2, none⟩ (.int .i64 m) := ⟨_, rfl⟩
  rw [← hw]
  have hm2 : Mod (fun j => j = T) W1 W2 := by rw [hw]; exact (Mod.refl (fun j => j = T) W1).setCell (p := ⟨T, 2, none⟩) (.inl rfl) _
  have HT2 : Hid (Own W2 T 61 4 (csF p n m)) := Lib.hid (by rw [hw]; exact (HT1.out.set 2 _).congr (fun i hi => by match i, hi with | 0, _ => rfl | 1, _ => rfl | 2, _ => rfl | 3, _ => rfl))
  clear hw
  refine hK.out _ _ ?_ (fun hHeld' => ?_)
  · exact hm1.trans hm2
  clear hK K' hHeld
  have hHeld := hHeld'
  clear hHeld'
  try simp only [Act.put, zl0, zl1, zl2, zl3, zl4, zl5]
  refine wpAnyZ_done (by kernel_rfl) ?_ _
  go_wp2_with fail
  go_end0
  exact ⟨rfl, HT2.out, hHeld⟩
theorem chChange2_more (T : Nat) (p a l : Int) (w : World) (HT : Hid (Own w T 61 4 (csF p a l))) (hl : 2 ≤ l) (hl1 : l ≤ 1000000) : Calls Tryz.prog 51 #[.pointer (some ⟨T, 0, none⟩)] w fun e w' => e = .returned (.tuple #[]) ∧ Own w' T 61 4 (csF p a (l - 1)) ∧ Mod (fun j => j = T) w w' := by
  have y2 : w.cell? ⟨T, 2, none⟩ = some (.int .i64 l) := HT.out.cell (i := 2) (by omega)
  have f2 := HT.out.frozen 2
  have lT : T < w.heap.size := HT.out.lt
  have wl : IntKind.i64.wrap (l - 1) = l - 1 := IntWalk.i64_in _ (by omega)
  have h1 : (0 : Int) < l - 1 := by omega
  have h2 : ¬ l - 1 = 0 := by omega
  have h3 : (l - 1 == 0) = false := by simpa using h2
  go_enter Tryz.func51, Tryz.ntmps51
  go_wp2_with fail
  go_end0
  exact ⟨rfl, (HT.out.set 2 _).congr (fun i hi => by match i, hi with | 0, _ => rfl | 1, _ => rfl | 2, _ => rfl | 3, _ => rfl), (Mod.refl (fun j => j = T) w).setCell (p := ⟨T, 2, none⟩) (.inl rfl) _⟩
theorem chChange2_last (T : Nat) (p a : Int) (w : World) (HT : Hid (Own w T 61 4 (csF p a 1))) : Calls Tryz.prog 51 #[.pointer (some ⟨T, 0, none⟩)] w fun e w' => e = .returned (.tuple #[]) ∧ Own w' T 61 4 (csF p 0 0) ∧ Mod (fun j => j = T) w w' := by
  have y1 : w.cell? ⟨T, 1, none⟩ = some (.int .i64 a) := HT.out.cell (i := 1) (by omega)
  have y2 : w.cell? ⟨T, 2, none⟩ = some (.int .i64 1) := HT.out.cell (i := 2) (by omega)
  have f1 := HT.out.frozen 1
  have f2 := HT.out.frozen 2
  have lT : T < w.heap.size := HT.out.lt
  go_enter Tryz.func51, Tryz.ntmps51
  go_wp2_with fail
  go_end0
  exact ⟨rfl, ((HT.out.set 2 _).set 1 _).congr (fun i hi => by match i, hi with | 0, _ => rfl | 1, _ => rfl | 2, _ => rfl | 3, _ => rfl), ((Mod.refl (fun j => j = T) w).setCell (p := ⟨T, 2, none⟩) (.inl rfl) _).setCell (p := ⟨T, 1, none⟩) (.inl rfl) _⟩
set_option maxRecDepth 100000 in
set_option maxHeartbeats 8000000 in
theorem chStep_lease (nm : ByteArray) (at_ ph mn mx st fb ow : Int) (n m : Int) (w : World) (h : ChOk ph mn mx st fb) (HEV : Hid (0 ≤ n ∧ n ≤ mx ∧ 1 ≤ m ∧ m ≤ 1000000)) (hG0 : w.cell? ⟨0, 46, none⟩ = some (.int .i64 (-2))) : Calls Tryz.prog 11 #[.agg #[.string nm, .int .i64 at_, .int .i64 ph, .int .i64 mn, .int .i64 mx, .int .i64 st, .int .i64 fb, .int .i64 ow], .agg #[.int .i64 4, .int .i64 0, .int .i64 0, .bool false], .agg #[.int .i64 7, .int .i64 n, .int .i64 m]] w fun e w' => e = .returned (.tuple #[.agg #[.int .i64 4, .int .i64 n, .int .i64 m, .bool false], .int .i64 0]) ∧ Below w.heap.size w w' := by
  have HCO := Lib.hid h
  obtain ⟨W0, hW0⟩ : ∃ W, W = (((w.alloc (.cells #[.string nm, .int .i64 at_, .int .i64 ph, .int .i64 mn, .int .i64 mx, .int .i64 st, .int .i64 fb, .int .i64 ow] 59)).alloc (.cells #[.int .i64 4, .int .i64 0, .int .i64 0, .bool false] 61)).alloc (.cells #[.int .i64 7, .int .i64 n, .int .i64 m] 65)).alloc (.cells #[.int .i64 0, .int .i64 0, .int .i64 0, .bool false] 61) := ⟨_, rfl⟩
  obtain ⟨C, hC⟩ : ∃ S, S = w.heap.size := ⟨_, rfl⟩
  obtain ⟨T, hT⟩ : ∃ S, S = w.heap.size + 1 := ⟨_, rfl⟩
  obtain ⟨E, hE⟩ : ∃ S, S = w.heap.size + 1 + 1 := ⟨_, rfl⟩
  obtain ⟨R, hR⟩ : ∃ S, S = w.heap.size + 1 + 1 + 1 := ⟨_, rfl⟩
  have hb0 : Below w.heap.size w W0 := by rw [hW0]; exact ((((Below.refl _ _).alloc (Nat.le_refl _) _).alloc (by simp) _).alloc (by simp; omega) _).alloc (by simp; omega) _
  have HC : Hid (W0.cell? ⟨C, 0, none⟩ = some (.string nm) ∧ W0.cell? ⟨C, 1, none⟩ = some (.int .i64 at_) ∧ W0.cell? ⟨C, 2, none⟩ = some (.int .i64 ph) ∧ W0.cell? ⟨C, 3, none⟩ = some (.int .i64 mn) ∧ W0.cell? ⟨C, 4, none⟩ = some (.int .i64 mx) ∧ W0.cell? ⟨C, 5, none⟩ = some (.int .i64 st) ∧ W0.cell? ⟨C, 6, none⟩ = some (.int .i64 fb) ∧ W0.cell? ⟨C, 7, none⟩ = some (.int .i64 ow)) := Lib.hid (by rw [hW0, hC]; exact ⟨by go_simp, by go_simp, by go_simp, by go_simp, by go_simp, by go_simp, by go_simp, by go_simp⟩)
  have HT : Hid (Own W0 T 61 4 (csF 4 0 0)) := Lib.hid (by rw [hW0, hT]; exact ((Own.newAt _ 61 _ _ (by simp) (n := 4) rfl (fun i hi => by match i, hi with | 0, _ => rfl | 1, _ => rfl | 2, _ => rfl | 3, _ => rfl)).alloc _).alloc _)
  have HE : Hid (Own W0 E 65 3 (evF 7 n m)) := Lib.hid (by rw [hW0, hE]; exact (Own.newAt _ 65 _ _ (by simp) (n := 3) rfl (fun i hi => by match i, hi with | 0, _ => rfl | 1, _ => rfl | 2, _ => rfl)).alloc _)
  have HR : Hid (Own W0 R 61 4 (csF 0 0 0)) := Lib.hid (by rw [hW0, hR]; exact Own.newAt _ 61 _ _ (by simp) (n := 4) rfl (fun i hi => by match i, hi with | 0, _ => rfl | 1, _ => rfl | 2, _ => rfl | 3, _ => rfl))
  have HLT : Hid (w.heap.size ≤ C ∧ w.heap.size ≤ T ∧ w.heap.size ≤ E ∧ w.heap.size ≤ R ∧ T ≠ R ∧ E ≠ T) := Lib.hid (by omega)
  have HB := Lib.hid hb0
  have HSW : Hid (W0.heap.size ≤ W0.heap.size) := Lib.hid (Nat.le_refl _)
  have HG := Lib.hid hG0
  have HW0 := Lib.hid (And.intro hW0.symm (And.intro hC.symm (And.intro hT.symm (And.intro hE.symm hR.symm))))
  clear hW0 hb0 hC hT hE hR hG0 h
  go_enter Tryz.func11, Tryz.ntmps11
  go_upto_region 1 with (fail)
  try simp only [World.size_alloc]
  rw [HW0.out.1, HW0.out.2.2.2.2, HW0.out.2.2.2.1, HW0.out.2.2.1, HW0.out.2.1]
  clear HW0
  obtain ⟨t0, t1, t2, t3⟩ : W0.cell? ⟨T, 0, none⟩ = some (.int .i64 4) ∧ W0.cell? ⟨T, 1, none⟩ = some (.int .i64 0) ∧ W0.cell? ⟨T, 2, none⟩ = some (.int .i64 0) ∧ W0.cell? ⟨T, 3, none⟩ = some (.bool false) := ⟨HT.out.cell (i := 0) (by omega), HT.out.cell (i := 1) (by omega), HT.out.cell (i := 2) (by omega), HT.out.cell (i := 3) (by omega)⟩
  have lT : T < W0.heap.size := HT.out.lt
  obtain ⟨e0, e1, e2⟩ : W0.cell? ⟨E, 0, none⟩ = some (.int .i64 7) ∧ W0.cell? ⟨E, 1, none⟩ = some (.int .i64 n) ∧ W0.cell? ⟨E, 2, none⟩ = some (.int .i64 m) := ⟨HE.out.cell (i := 0) (by omega), HE.out.cell (i := 1) (by omega), HE.out.cell (i := 2) (by omega)⟩
  have lE : E < W0.heap.size := HE.out.lt
  obtain ⟨c0, c1, c2, c3, c4, c5, c6, c7⟩ : W0.cell? ⟨C, 0, none⟩ = some (.string nm) ∧ W0.cell? ⟨C, 1, none⟩ = some (.int .i64 at_) ∧ W0.cell? ⟨C, 2, none⟩ = some (.int .i64 ph) ∧ W0.cell? ⟨C, 3, none⟩ = some (.int .i64 mn) ∧ W0.cell? ⟨C, 4, none⟩ = some (.int .i64 mx) ∧ W0.cell? ⟨C, 5, none⟩ = some (.int .i64 st) ∧ W0.cell? ⟨C, 6, none⟩ = some (.int .i64 fb) ∧ W0.cell? ⟨C, 7, none⟩ = some (.int .i64 ow) := HC.out
  have lC : C < W0.heap.size := zb c0
  go_wp2_with fail
  refine (chValid_off nm at_ ph mn mx st fb ow W0 HCO.out (by have := HCO.out.m1; have := HCO.out.mm; omega)).mono ?_
  rintro e W1 ⟨rfl, hb1⟩
  have HT := Lib.hid (HT.out.keep hb1 HT.out.lt)
  have HE := Lib.hid (HE.out.keep hb1 HE.out.lt)
  have HR := Lib.hid (HR.out.keep hb1 HR.out.lt)
  have HC : Hid (W1.cell? ⟨C, 0, none⟩ = some (.string nm) ∧ W1.cell? ⟨C, 1, none⟩ = some (.int .i64 at_) ∧ W1.cell? ⟨C, 2, none⟩ = some (.int .i64 ph) ∧ W1.cell? ⟨C, 3, none⟩ = some (.int .i64 mn) ∧ W1.cell? ⟨C, 4, none⟩ = some (.int .i64 mx) ∧ W1.cell? ⟨C, 5, none⟩ = some (.int .i64 st) ∧ W1.cell? ⟨C, 6, none⟩ = some (.int .i64 fb) ∧ W1.cell? ⟨C, 7, none⟩ = some (.int .i64 ow)) := Lib.hid ⟨(hb1.cell (zb c0)).trans c0, (hb1.cell (zb c1)).trans c1, (hb1.cell (zb c2)).trans c2, (hb1.cell (zb c3)).trans c3, (hb1.cell (zb c4)).trans c4, (hb1.cell (zb c5)).trans c5, (hb1.cell (zb c6)).trans c6, (hb1.cell (zb c7)).trans c7⟩
  have HB := Lib.hid (below_then HB.out hb1)
  have HSW := Lib.hid (Nat.le_trans HSW.out hb1.size)
  clear hb1
  clear t0 t1 t2 t3 lT e0 e1 e2 lE c0 c1 c2 c3 c4 c5 c6 c7 lC
  obtain ⟨t0, t1, t2, t3⟩ : W1.cell? ⟨T, 0, none⟩ = some (.int .i64 4) ∧ W1.cell? ⟨T, 1, none⟩ = some (.int .i64 0) ∧ W1.cell? ⟨T, 2, none⟩ = some (.int .i64 0) ∧ W1.cell? ⟨T, 3, none⟩ = some (.bool false) := ⟨HT.out.cell (i := 0) (by omega), HT.out.cell (i := 1) (by omega), HT.out.cell (i := 2) (by omega), HT.out.cell (i := 3) (by omega)⟩
  have lT : T < W1.heap.size := HT.out.lt
  obtain ⟨e0, e1, e2⟩ : W1.cell? ⟨E, 0, none⟩ = some (.int .i64 7) ∧ W1.cell? ⟨E, 1, none⟩ = some (.int .i64 n) ∧ W1.cell? ⟨E, 2, none⟩ = some (.int .i64 m) := ⟨HE.out.cell (i := 0) (by omega), HE.out.cell (i := 1) (by omega), HE.out.cell (i := 2) (by omega)⟩
  have lE : E < W1.heap.size := HE.out.lt
  obtain ⟨c0, c1, c2, c3, c4, c5, c6, c7⟩ : W1.cell? ⟨C, 0, none⟩ = some (.string nm) ∧ W1.cell? ⟨C, 1, none⟩ = some (.int .i64 at_) ∧ W1.cell? ⟨C, 2, none⟩ = some (.int .i64 ph) ∧ W1.cell? ⟨C, 3, none⟩ = some (.int .i64 mn) ∧ W1.cell? ⟨C, 4, none⟩ = some (.int .i64 mx) ∧ W1.cell? ⟨C, 5, none⟩ = some (.int .i64 st) ∧ W1.cell? ⟨C, 6, none⟩ = some (.int .i64 fb) ∧ W1.cell? ⟨C, 7, none⟩ = some (.int .i64 ow) := HC.out
  have lC : C < W1.heap.size := zb c0
  go_wp2_with (go_at_call 27; refine (chIn_ok _ _ _ _ (by omega) (by omega)).mono ?_; rintro e w' ⟨rfl, hw⟩; have hw := hw.symm; subst hw)
  refine (chEvent_lease nm at_ ph mn mx st fb ow n m W1 HEV.out).mono ?_
  rintro e W3 ⟨rfl, hb3⟩
  have HT := Lib.hid (HT.out.keep hb3 HT.out.lt)
  have HE := Lib.hid (HE.out.keep hb3 HE.out.lt)
  have HR := Lib.hid (HR.out.keep hb3 HR.out.lt)
  have HC : Hid (W3.cell? ⟨C, 0, none⟩ = some (.string nm) ∧ W3.cell? ⟨C, 1, none⟩ = some (.int .i64 at_) ∧ W3.cell? ⟨C, 2, none⟩ = some (.int .i64 ph) ∧ W3.cell? ⟨C, 3, none⟩ = some (.int .i64 mn) ∧ W3.cell? ⟨C, 4, none⟩ = some (.int .i64 mx) ∧ W3.cell? ⟨C, 5, none⟩ = some (.int .i64 st) ∧ W3.cell? ⟨C, 6, none⟩ = some (.int .i64 fb) ∧ W3.cell? ⟨C, 7, none⟩ = some (.int .i64 ow)) := Lib.hid ⟨(hb3.cell (zb c0)).trans c0, (hb3.cell (zb c1)).trans c1, (hb3.cell (zb c2)).trans c2, (hb3.cell (zb c3)).trans c3, (hb3.cell (zb c4)).trans c4, (hb3.cell (zb c5)).trans c5, (hb3.cell (zb c6)).trans c6, (hb3.cell (zb c7)).trans c7⟩
  have HB := Lib.hid (below_then HB.out hb3)
  have HSW := Lib.hid (Nat.le_trans HSW.out hb3.size)
  clear hb3
  clear t0 t1 t2 t3 lT e0 e1 e2 lE c0 c1 c2 c3 c4 c5 c6 c7 lC
  obtain ⟨t0, t1, t2, t3⟩ : W3.cell? ⟨T, 0, none⟩ = some (.int .i64 4) ∧ W3.cell? ⟨T, 1, none⟩ = some (.int .i64 0) ∧ W3.cell? ⟨T, 2, none⟩ = some (.int .i64 0) ∧ W3.cell? ⟨T, 3, none⟩ = some (.bool false) := ⟨HT.out.cell (i := 0) (by omega), HT.out.cell (i := 1) (by omega), HT.out.cell (i := 2) (by omega), HT.out.cell (i := 3) (by omega)⟩
  have lT : T < W3.heap.size := HT.out.lt
  obtain ⟨e0, e1, e2⟩ : W3.cell? ⟨E, 0, none⟩ = some (.int .i64 7) ∧ W3.cell? ⟨E, 1, none⟩ = some (.int .i64 n) ∧ W3.cell? ⟨E, 2, none⟩ = some (.int .i64 m) := ⟨HE.out.cell (i := 0) (by omega), HE.out.cell (i := 1) (by omega), HE.out.cell (i := 2) (by omega)⟩
  have lE : E < W3.heap.size := HE.out.lt
  obtain ⟨c0, c1, c2, c3, c4, c5, c6, c7⟩ : W3.cell? ⟨C, 0, none⟩ = some (.string nm) ∧ W3.cell? ⟨C, 1, none⟩ = some (.int .i64 at_) ∧ W3.cell? ⟨C, 2, none⟩ = some (.int .i64 ph) ∧ W3.cell? ⟨C, 3, none⟩ = some (.int .i64 mn) ∧ W3.cell? ⟨C, 4, none⟩ = some (.int .i64 mx) ∧ W3.cell? ⟨C, 5, none⟩ = some (.int .i64 st) ∧ W3.cell? ⟨C, 6, none⟩ = some (.int .i64 fb) ∧ W3.cell? ⟨C, 7, none⟩ = some (.int .i64 ow) := HC.out
  have lC : C < W3.heap.size := zb c0
  have hG : W3.cell? ⟨0, 46, none⟩ = some (.int .i64 (-2)) := (HB.out.cell (zb HG.out)).trans HG.out
  have lG : 0 < W3.heap.size := zb hG
  go_upto_region 7 with (fail)
  refine region_z (S := fun w' => Below W3.heap.size W3 w') [] (by kernel_rfl) ((Below.refl _ _).drew) (fun hHeld => ?_)
  refine zt (i := 0) (v := .pointer (some ⟨E, 0, none⟩)) [] (fun w' hSw => ?_) hHeld ?_
  · have f0 := (hSw.cell (p := ⟨E, 0, none⟩) lE).trans e0
    have f1 := (hSw.cell (p := ⟨T, 0, none⟩) lT).trans t0
    have f2 := (hSw.cell (p := ⟨0, 46, none⟩) lG).trans hG
    have lE' : E < w'.heap.size := Nat.lt_of_lt_of_le lE hSw.size
    have lT' : T < w'.heap.size := Nat.lt_of_lt_of_le lT hSw.size
    have lG' : 0 < w'.heap.size := Nat.lt_of_lt_of_le lG hSw.size
    clear hHeld hSw
    go_simp
  simp only [Act.put, zl0, zl1, zl2, zl3, zl4, zl5]
  refine zt (i := 1) (v := .int .i64 7) [] (fun w' hSw => ?_) hHeld ?_
  · have f0 := (hSw.cell (p := ⟨E, 0, none⟩) lE).trans e0
    have f1 := (hSw.cell (p := ⟨T, 0, none⟩) lT).trans t0
    have f2 := (hSw.cell (p := ⟨0, 46, none⟩) lG).trans hG
    have lE' : E < w'.heap.size := Nat.lt_of_lt_of_le lE hSw.size
    have lT' : T < w'.heap.size := Nat.lt_of_lt_of_le lT hSw.size
    have lG' : 0 < w'.heap.size := Nat.lt_of_lt_of_le lG hSw.size
    clear hHeld hSw
    go_simp
  simp only [Act.put, zl0, zl1, zl2, zl3, zl4, zl5]
  refine zt (i := 2) (v := .pointer (some ⟨T, 0, none⟩)) [] (fun w' hSw => ?_) hHeld ?_
  · have f0 := (hSw.cell (p := ⟨E, 0, none⟩) lE).trans e0
    have f1 := (hSw.cell (p := ⟨T, 0, none⟩) lT).trans t0
    have f2 := (hSw.cell (p := ⟨0, 46, none⟩) lG).trans hG
    have lE' : E < w'.heap.size := Nat.lt_of_lt_of_le lE hSw.size
    have lT' : T < w'.heap.size := Nat.lt_of_lt_of_le lT hSw.size
    have lG' : 0 < w'.heap.size := Nat.lt_of_lt_of_le lG hSw.size
    clear hHeld hSw
    go_simp
  simp only [Act.put, zl0, zl1, zl2, zl3, zl4, zl5]
  refine zt (i := 3) (v := .int .i64 4) [] (fun w' hSw => ?_) hHeld ?_
  · have f0 := (hSw.cell (p := ⟨E, 0, none⟩) lE).trans e0
    have f1 := (hSw.cell (p := ⟨T, 0, none⟩) lT).trans t0
    have f2 := (hSw.cell (p := ⟨0, 46, none⟩) lG).trans hG
    have lE' : E < w'.heap.size := Nat.lt_of_lt_of_le lE hSw.size
    have lT' : T < w'.heap.size := Nat.lt_of_lt_of_le lT hSw.size
    have lG' : 0 < w'.heap.size := Nat.lt_of_lt_of_le lG hSw.size
    clear hHeld hSw
    go_simp
  simp only [Act.put, zl0, zl1, zl2, zl3, zl4, zl5]
  refine zt (i := 4) (v := .pointer (some ⟨0, 42, none⟩)) [] (fun w' hSw => ?_) hHeld ?_
  · have f0 := (hSw.cell (p := ⟨E, 0, none⟩) lE).trans e0
    have f1 := (hSw.cell (p := ⟨T, 0, none⟩) lT).trans t0
    have f2 := (hSw.cell (p := ⟨0, 46, none⟩) lG).trans hG
    have lE' : E < w'.heap.size := Nat.lt_of_lt_of_le lE hSw.size
    have lT' : T < w'.heap.size := Nat.lt_of_lt_of_le lT hSw.size
    have lG' : 0 < w'.heap.size := Nat.lt_of_lt_of_le lG hSw.size
    clear hHeld hSw
    go_simp
  simp only [Act.put, zl0, zl1, zl2, zl3, zl4, zl5]
  refine zt (i := 5) (v := .pointer (some ⟨0, 46, none⟩)) [] (fun w' hSw => ?_) hHeld ?_
  · have f0 := (hSw.cell (p := ⟨E, 0, none⟩) lE).trans e0
    have f1 := (hSw.cell (p := ⟨T, 0, none⟩) lT).trans t0
    have f2 := (hSw.cell (p := ⟨0, 46, none⟩) lG).trans hG
    have lE' : E < w'.heap.size := Nat.lt_of_lt_of_le lE hSw.size
    have lT' : T < w'.heap.size := Nat.lt_of_lt_of_le lT hSw.size
    have lG' : 0 < w'.heap.size := Nat.lt_of_lt_of_le lG hSw.size
    clear hHeld hSw
    go_simp
  simp only [Act.put, zl0, zl1, zl2, zl3, zl4, zl5]
  refine zt (i := 6) (v := .int .i64 (-2)) [] (fun w' hSw => ?_) hHeld ?_
  · have f0 := (hSw.cell (p := ⟨E, 0, none⟩) lE).trans e0
    have f1 := (hSw.cell (p := ⟨T, 0, none⟩) lT).trans t0
    have f2 := (hSw.cell (p := ⟨0, 46, none⟩) lG).trans hG
    have lE' : E < w'.heap.size := Nat.lt_of_lt_of_le lE hSw.size
    have lT' : T < w'.heap.size := Nat.lt_of_lt_of_le lT hSw.size
    have lG' : 0 < w'.heap.size := Nat.lt_of_lt_of_le lG hSw.size
    clear hHeld hSw
    go_simp
  simp only [Act.put, zl0, zl1, zl2, zl3, zl4, zl5]
  refine zt (i := 7) (v := .int .i64 (-2)) [] (fun w' hSw => ?_) hHeld ?_
  · have f0 := (hSw.cell (p := ⟨E, 0, none⟩) lE).trans e0
    have f1 := (hSw.cell (p := ⟨T, 0, none⟩) lT).trans t0
    have f2 := (hSw.cell (p := ⟨0, 46, none⟩) lG).trans hG
    have lE' : E < w'.heap.size := Nat.lt_of_lt_of_le lE hSw.size
    have lT' : T < w'.heap.size := Nat.lt_of_lt_of_le lT hSw.size
    have lG' : 0 < w'.heap.size := Nat.lt_of_lt_of_le lG hSw.size
    clear hHeld hSw
    go_simp
  simp only [Act.put, zl0, zl1, zl2, zl3, zl4, zl5]
  refine wpAnyZ_done (by kernel_rfl) ?_ _
  obtain ⟨W4, hW4⟩ : ∃ W, W = W3.drew := ⟨_, rfl⟩
  rw [← hW4] at hHeld ⊢
  clear hW4 hG lG
  have HT := Lib.hid (HT.out.keep hHeld HT.out.lt)
  have HE := Lib.hid (HE.out.keep hHeld HE.out.lt)
  have HR := Lib.hid (HR.out.keep hHeld HR.out.lt)
  have HC : Hid (W4.cell? ⟨C, 0, none⟩ = some (.string nm) ∧ W4.cell? ⟨C, 1, none⟩ = some (.int .i64 at_) ∧ W4.cell? ⟨C, 2, none⟩ = some (.int .i64 ph) ∧ W4.cell? ⟨C, 3, none⟩ = some (.int .i64 mn) ∧ W4.cell? ⟨C, 4, none⟩ = some (.int .i64 mx) ∧ W4.cell? ⟨C, 5, none⟩ = some (.int .i64 st) ∧ W4.cell? ⟨C, 6, none⟩ = some (.int .i64 fb) ∧ W4.cell? ⟨C, 7, none⟩ = some (.int .i64 ow)) := Lib.hid ⟨(hHeld.cell (zb c0)).trans c0, (hHeld.cell (zb c1)).trans c1, (hHeld.cell (zb c2)).trans c2, (hHeld.cell (zb c3)).trans c3, (hHeld.cell (zb c4)).trans c4, (hHeld.cell (zb c5)).trans c5, (hHeld.cell (zb c6)).trans c6, (hHeld.cell (zb c7)).trans c7⟩
  have HB := Lib.hid (below_then HB.out hHeld)
  have HSW := Lib.hid (Nat.le_trans HSW.out hHeld.size)
  clear hHeld
  clear t0 t1 t2 t3 lT e0 e1 e2 lE c0 c1 c2 c3 c4 c5 c6 c7 lC
  obtain ⟨t0, t1, t2, t3⟩ : W4.cell? ⟨T, 0, none⟩ = some (.int .i64 4) ∧ W4.cell? ⟨T, 1, none⟩ = some (.int .i64 0) ∧ W4.cell? ⟨T, 2, none⟩ = some (.int .i64 0) ∧ W4.cell? ⟨T, 3, none⟩ = some (.bool false) := ⟨HT.out.cell (i := 0) (by omega), HT.out.cell (i := 1) (by omega), HT.out.cell (i := 2) (by omega), HT.out.cell (i := 3) (by omega)⟩
  have lT : T < W4.heap.size := HT.out.lt
  obtain ⟨e0, e1, e2⟩ : W4.cell? ⟨E, 0, none⟩ = some (.int .i64 7) ∧ W4.cell? ⟨E, 1, none⟩ = some (.int .i64 n) ∧ W4.cell? ⟨E, 2, none⟩ = some (.int .i64 m) := ⟨HE.out.cell (i := 0) (by omega), HE.out.cell (i := 1) (by omega), HE.out.cell (i := 2) (by omega)⟩
  have lE : E < W4.heap.size := HE.out.lt
  obtain ⟨c0, c1, c2, c3, c4, c5, c6, c7⟩ : W4.cell? ⟨C, 0, none⟩ = some (.string nm) ∧ W4.cell? ⟨C, 1, none⟩ = some (.int .i64 at_) ∧ W4.cell? ⟨C, 2, none⟩ = some (.int .i64 ph) ∧ W4.cell? ⟨C, 3, none⟩ = some (.int .i64 mn) ∧ W4.cell? ⟨C, 4, none⟩ = some (.int .i64 mx) ∧ W4.cell? ⟨C, 5, none⟩ = some (.int .i64 st) ∧ W4.cell? ⟨C, 6, none⟩ = some (.int .i64 fb) ∧ W4.cell? ⟨C, 7, none⟩ = some (.int .i64 ow) := HC.out
  have lC : C < W4.heap.size := zb c0
  go_wp2_with fail
  refine (chChange_lease n m W4).mono ?_
  rintro e W5 ⟨rfl, hw5⟩
  have hb5 : Below W4.heap.size W4 W5 := by rw [hw5]; exact (Below.refl _ _).alloc (Nat.le_refl _) _
  obtain ⟨E2, hE2⟩ : ∃ E, E = W4.heap.size := ⟨_, rfl⟩
  rw [← hE2]
  have hk1 : W5.cell? ⟨E2, 1, none⟩ = some (.int .i64 n) := by rw [hw5, hE2]; go_simp
  have hk2 : W5.cell? ⟨E2, 2, none⟩ = some (.int .i64 m) := by rw [hw5, hE2]; go_simp
  have hTE : ¬ E2 = T := by have := HT.out.lt; omega
  have HT := Lib.hid (HT.out.keep hb5 HT.out.lt)
  have HE := Lib.hid (HE.out.keep hb5 HE.out.lt)
  have HR := Lib.hid (HR.out.keep hb5 HR.out.lt)
  have HC : Hid (W5.cell? ⟨C, 0, none⟩ = some (.string nm) ∧ W5.cell? ⟨C, 1, none⟩ = some (.int .i64 at_) ∧ W5.cell? ⟨C, 2, none⟩ = some (.int .i64 ph) ∧ W5.cell? ⟨C, 3, none⟩ = some (.int .i64 mn) ∧ W5.cell? ⟨C, 4, none⟩ = some (.int .i64 mx) ∧ W5.cell? ⟨C, 5, none⟩ = some (.int .i64 st) ∧ W5.cell? ⟨C, 6, none⟩ = some (.int .i64 fb) ∧ W5.cell? ⟨C, 7, none⟩ = some (.int .i64 ow)) := Lib.hid ⟨(hb5.cell (zb c0)).trans c0, (hb5.cell (zb c1)).trans c1, (hb5.cell (zb c2)).trans c2, (hb5.cell (zb c3)).trans c3, (hb5.cell (zb c4)).trans c4, (hb5.cell (zb c5)).trans c5, (hb5.cell (zb c6)).trans c6, (hb5.cell (zb c7)).trans c7⟩
  have HB := Lib.hid (below_then HB.out hb5)
  have HSW := Lib.hid (Nat.le_trans HSW.out hb5.size)
  clear hb5 hw5 hE2
  clear t0 t1 t2 t3 lT e0 e1 e2 lE c0 c1 c2 c3 c4 c5 c6 c7 lC
  go_wp2_with fail
  refine (chChange1_any T E2 4 0 0 n m W5 HT hk1 hk2 hTE).mono ?_
  rintro e W6 ⟨rfl, hT6, hm6⟩
  clear hk1 hk2 hTE
  have HT := Lib.hid hT6
  have HR := Lib.hid (HR.out.mod hm6 (by have := HLT.out; omega))
  have HB := Lib.hid (HB.out.trans (hm6.below HB.out.size (fun j _ e => by have := HLT.out; omega)))
  clear hT6 hm6
  obtain ⟨t0, t1, t2, t3⟩ : W6.cell? ⟨T, 0, none⟩ = some (.int .i64 4) ∧ W6.cell? ⟨T, 1, none⟩ = some (.int .i64 n) ∧ W6.cell? ⟨T, 2, none⟩ = some (.int .i64 m) ∧ W6.cell? ⟨T, 3, none⟩ = some (.bool false) := ⟨HT.out.cell (i := 0) (by omega), HT.out.cell (i := 1) (by omega), HT.out.cell (i := 2) (by omega), HT.out.cell (i := 3) (by omega)⟩
  have lT : T < W6.heap.size := HT.out.lt
  obtain ⟨r0, r1, r2, r3⟩ : W6.cell? ⟨R, 0, none⟩ = some (.int .i64 0) ∧ W6.cell? ⟨R, 1, none⟩ = some (.int .i64 0) ∧ W6.cell? ⟨R, 2, none⟩ = some (.int .i64 0) ∧ W6.cell? ⟨R, 3, none⟩ = some (.bool false) := ⟨HR.out.cell (i := 0) (by omega), HR.out.cell (i := 1) (by omega), HR.out.cell (i := 2) (by omega), HR.out.cell (i := 3) (by omega)⟩
  have lR : R < W6.heap.size := HR.out.lt
  have g0 := HR.out.frozen 0
  have g1 := HR.out.frozen 1
  have g2 := HR.out.frozen 2
  have g3 := HR.out.frozen 3
  have hne : ¬ T = R := HLT.out.2.2.2.2.1
  have hne2 : ¬ R = T := fun e => HLT.out.2.2.2.2.1 e.symm
  go_wp2_with fail
  obtain ⟨W7, hW7⟩ : ∃ W, W = (((W6.setCell ⟨R, 0, none⟩ (.int .i64 4)).setCell ⟨R, 1, none⟩ (.int .i64 n)).setCell ⟨R, 2, none⟩ (.int .i64 m)).setCell ⟨R, 3, none⟩ (.bool false) := ⟨_, rfl⟩
  have hm7 : Mod (fun j => j = R) W6 W7 := by rw [hW7]; exact ((((Mod.refl (fun j => j = R) W6).setCell (p := ⟨R, 0, none⟩) (.inl rfl) _).setCell (p := ⟨R, 1, none⟩) (.inl rfl) _).setCell (p := ⟨R, 2, none⟩) (.inl rfl) _).setCell (p := ⟨R, 3, none⟩) (.inl rfl) _
  have HR7 : Hid (Own W7 R 61 4 (csF 4 n m)) := Lib.hid (by rw [hW7]; exact ((((HR.out.set 0 _).set 1 _).set 2 _).set 3 _).congr (fun i hi => by match i, hi with | 0, _ => rfl | 1, _ => rfl | 2, _ => rfl | 3, _ => rfl))
  rw [← hW7]
  refine bodyPost_ret (results_ctT (a := 6) (t := 7) (ty := 61) (x := R) (by kernel_rfl) rfl (load_cs HR7.out)) rfl ?_
  exact ⟨rfl, HB.out.trans (hm7.below HB.out.size (fun j _ e => by have := HLT.out; omega))⟩
set_option maxRecDepth 100000 in
set_option maxHeartbeats 8000000 in
theorem chStep_tick (nm : ByteArray) (at_ ph mn mx st fb ow : Int) (a l : Int) (w : World) (h : ChOk ph mn mx st fb) (hl2 : 2 ≤ l) (hl3 : l ≤ 1000000) (ha0 : 0 ≤ a) (ha1 : a ≤ mx) (hG0 : w.cell? ⟨0, 52, none⟩ = some (.int .i64 (-2))) : Calls Tryz.prog 11 #[.agg #[.string nm, .int .i64 at_, .int .i64 ph, .int .i64 mn, .int .i64 mx, .int .i64 st, .int .i64 fb, .int .i64 ow], .agg #[.int .i64 4, .int .i64 a, .int .i64 l, .bool false], .agg #[.int .i64 8, .int .i64 0, .int .i64 0]] w fun e w' => e = .returned (.tuple #[.agg #[.int .i64 4, .int .i64 a, .int .i64 (l - 1), .bool false], .int .i64 0]) ∧ Below w.heap.size w w' := by
  have HCO := Lib.hid h
  obtain ⟨W0, hW0⟩ : ∃ W, W = (((w.alloc (.cells #[.string nm, .int .i64 at_, .int .i64 ph, .int .i64 mn, .int .i64 mx, .int .i64 st, .int .i64 fb, .int .i64 ow] 59)).alloc (.cells #[.int .i64 4, .int .i64 a, .int .i64 l, .bool false] 61)).alloc (.cells #[.int .i64 8, .int .i64 0, .int .i64 0] 65)).alloc (.cells #[.int .i64 0, .int .i64 0, .int .i64 0, .bool false] 61) := ⟨_, rfl⟩
  obtain ⟨C, hC⟩ : ∃ S, S = w.heap.size := ⟨_, rfl⟩
  obtain ⟨T, hT⟩ : ∃ S, S = w.heap.size + 1 := ⟨_, rfl⟩
  obtain ⟨E, hE⟩ : ∃ S, S = w.heap.size + 1 + 1 := ⟨_, rfl⟩
  obtain ⟨R, hR⟩ : ∃ S, S = w.heap.size + 1 + 1 + 1 := ⟨_, rfl⟩
  have hb0 : Below w.heap.size w W0 := by rw [hW0]; exact ((((Below.refl _ _).alloc (Nat.le_refl _) _).alloc (by simp) _).alloc (by simp; omega) _).alloc (by simp; omega) _
  have HC : Hid (W0.cell? ⟨C, 0, none⟩ = some (.string nm) ∧ W0.cell? ⟨C, 1, none⟩ = some (.int .i64 at_) ∧ W0.cell? ⟨C, 2, none⟩ = some (.int .i64 ph) ∧ W0.cell? ⟨C, 3, none⟩ = some (.int .i64 mn) ∧ W0.cell? ⟨C, 4, none⟩ = some (.int .i64 mx) ∧ W0.cell? ⟨C, 5, none⟩ = some (.int .i64 st) ∧ W0.cell? ⟨C, 6, none⟩ = some (.int .i64 fb) ∧ W0.cell? ⟨C, 7, none⟩ = some (.int .i64 ow)) := Lib.hid (by rw [hW0, hC]; exact ⟨by go_simp, by go_simp, by go_simp, by go_simp, by go_simp, by go_simp, by go_simp, by go_simp⟩)
  have HT : Hid (Own W0 T 61 4 (csF 4 a l)) := Lib.hid (by rw [hW0, hT]; exact ((Own.newAt _ 61 _ _ (by simp) (n := 4) rfl (fun i hi => by match i, hi with | 0, _ => rfl | 1, _ => rfl | 2, _ => rfl | 3, _ => rfl)).alloc _).alloc _)
  have HE : Hid (Own W0 E 65 3 (evF 8 0 0)) := Lib.hid (by rw [hW0, hE]; exact (Own.newAt _ 65 _ _ (by simp) (n := 3) rfl (fun i hi => by match i, hi with | 0, _ => rfl | 1, _ => rfl | 2, _ => rfl)).alloc _)
  have HR : Hid (Own W0 R 61 4 (csF 0 0 0)) := Lib.hid (by rw [hW0, hR]; exact Own.newAt _ 61 _ _ (by simp) (n := 4) rfl (fun i hi => by match i, hi with | 0, _ => rfl | 1, _ => rfl | 2, _ => rfl | 3, _ => rfl))
  have HLT : Hid (w.heap.size ≤ C ∧ w.heap.size ≤ T ∧ w.heap.size ≤ E ∧ w.heap.size ≤ R ∧ T ≠ R ∧ E ≠ T) := Lib.hid (by omega)
  have HB := Lib.hid hb0
  have HSW : Hid (W0.heap.size ≤ W0.heap.size) := Lib.hid (Nat.le_refl _)
  have HG := Lib.hid hG0
  have HW0 := Lib.hid (And.intro hW0.symm (And.intro hC.symm (And.intro hT.symm (And.intro hE.symm hR.symm))))
  clear hW0 hb0 hC hT hE hR hG0 h
  go_enter Tryz.func11, Tryz.ntmps11
  go_upto_region 1 with (fail)
  try simp only [World.size_alloc]
  rw [HW0.out.1, HW0.out.2.2.2.2, HW0.out.2.2.2.1, HW0.out.2.2.1, HW0.out.2.1]
  clear HW0
  obtain ⟨t0, t1, t2, t3⟩ : W0.cell? ⟨T, 0, none⟩ = some (.int .i64 4) ∧ W0.cell? ⟨T, 1, none⟩ = some (.int .i64 a) ∧ W0.cell? ⟨T, 2, none⟩ = some (.int .i64 l) ∧ W0.cell? ⟨T, 3, none⟩ = some (.bool false) := ⟨HT.out.cell (i := 0) (by omega), HT.out.cell (i := 1) (by omega), HT.out.cell (i := 2) (by omega), HT.out.cell (i := 3) (by omega)⟩
  have lT : T < W0.heap.size := HT.out.lt
  obtain ⟨e0, e1, e2⟩ : W0.cell? ⟨E, 0, none⟩ = some (.int .i64 8) ∧ W0.cell? ⟨E, 1, none⟩ = some (.int .i64 0) ∧ W0.cell? ⟨E, 2, none⟩ = some (.int .i64 0) := ⟨HE.out.cell (i := 0) (by omega), HE.out.cell (i := 1) (by omega), HE.out.cell (i := 2) (by omega)⟩
  have lE : E < W0.heap.size := HE.out.lt
  obtain ⟨c0, c1, c2, c3, c4, c5, c6, c7⟩ : W0.cell? ⟨C, 0, none⟩ = some (.string nm) ∧ W0.cell? ⟨C, 1, none⟩ = some (.int .i64 at_) ∧ W0.cell? ⟨C, 2, none⟩ = some (.int .i64 ph) ∧ W0.cell? ⟨C, 3, none⟩ = some (.int .i64 mn) ∧ W0.cell? ⟨C, 4, none⟩ = some (.int .i64 mx) ∧ W0.cell? ⟨C, 5, none⟩ = some (.int .i64 st) ∧ W0.cell? ⟨C, 6, none⟩ = some (.int .i64 fb) ∧ W0.cell? ⟨C, 7, none⟩ = some (.int .i64 ow) := HC.out
  have lC : C < W0.heap.size := zb c0
  go_wp2_with fail
  refine (chValid_on nm at_ ph mn mx st fb ow a l W0 HCO.out (by omega) (by omega) hl3 ha0 ha1).mono ?_
  rintro e W1 ⟨rfl, hb1⟩
  have HT := Lib.hid (HT.out.keep hb1 HT.out.lt)
  have HE := Lib.hid (HE.out.keep hb1 HE.out.lt)
  have HR := Lib.hid (HR.out.keep hb1 HR.out.lt)
  have HC : Hid (W1.cell? ⟨C, 0, none⟩ = some (.string nm) ∧ W1.cell? ⟨C, 1, none⟩ = some (.int .i64 at_) ∧ W1.cell? ⟨C, 2, none⟩ = some (.int .i64 ph) ∧ W1.cell? ⟨C, 3, none⟩ = some (.int .i64 mn) ∧ W1.cell? ⟨C, 4, none⟩ = some (.int .i64 mx) ∧ W1.cell? ⟨C, 5, none⟩ = some (.int .i64 st) ∧ W1.cell? ⟨C, 6, none⟩ = some (.int .i64 fb) ∧ W1.cell? ⟨C, 7, none⟩ = some (.int .i64 ow)) := Lib.hid ⟨(hb1.cell (zb c0)).trans c0, (hb1.cell (zb c1)).trans c1, (hb1.cell (zb c2)).trans c2, (hb1.cell (zb c3)).trans c3, (hb1.cell (zb c4)).trans c4, (hb1.cell (zb c5)).trans c5, (hb1.cell (zb c6)).trans c6, (hb1.cell (zb c7)).trans c7⟩
  have HB := Lib.hid (below_then HB.out hb1)
  have HSW := Lib.hid (Nat.le_trans HSW.out hb1.size)
  clear hb1
  clear t0 t1 t2 t3 lT e0 e1 e2 lE c0 c1 c2 c3 c4 c5 c6 c7 lC
  obtain ⟨t0, t1, t2, t3⟩ : W1.cell? ⟨T, 0, none⟩ = some (.int .i64 4) ∧ W1.cell? ⟨T, 1, none⟩ = some (.int .i64 a) ∧ W1.cell? ⟨T, 2, none⟩ = some (.int .i64 l) ∧ W1.cell? ⟨T, 3, none⟩ = some (.bool false) := ⟨HT.out.cell (i := 0) (by omega), HT.out.cell (i := 1) (by omega), HT.out.cell (i := 2) (by omega), HT.out.cell (i := 3) (by omega)⟩
  have lT : T < W1.heap.size := HT.out.lt
  obtain ⟨e0, e1, e2⟩ : W1.cell? ⟨E, 0, none⟩ = some (.int .i64 8) ∧ W1.cell? ⟨E, 1, none⟩ = some (.int .i64 0) ∧ W1.cell? ⟨E, 2, none⟩ = some (.int .i64 0) := ⟨HE.out.cell (i := 0) (by omega), HE.out.cell (i := 1) (by omega), HE.out.cell (i := 2) (by omega)⟩
  have lE : E < W1.heap.size := HE.out.lt
  obtain ⟨c0, c1, c2, c3, c4, c5, c6, c7⟩ : W1.cell? ⟨C, 0, none⟩ = some (.string nm) ∧ W1.cell? ⟨C, 1, none⟩ = some (.int .i64 at_) ∧ W1.cell? ⟨C, 2, none⟩ = some (.int .i64 ph) ∧ W1.cell? ⟨C, 3, none⟩ = some (.int .i64 mn) ∧ W1.cell? ⟨C, 4, none⟩ = some (.int .i64 mx) ∧ W1.cell? ⟨C, 5, none⟩ = some (.int .i64 st) ∧ W1.cell? ⟨C, 6, none⟩ = some (.int .i64 fb) ∧ W1.cell? ⟨C, 7, none⟩ = some (.int .i64 ow) := HC.out
  have lC : C < W1.heap.size := zb c0
  go_wp2_with (go_at_call 27; refine (chIn_ok _ _ _ _ (by omega) (by omega)).mono ?_; rintro e w' ⟨rfl, hw⟩; have hw := hw.symm; subst hw)
  refine (chEvent_tick nm at_ ph mn mx st fb ow 0 0 W1).mono ?_
  rintro e W3 ⟨rfl, hb3⟩
  have HT := Lib.hid (HT.out.keep hb3 HT.out.lt)
  have HE := Lib.hid (HE.out.keep hb3 HE.out.lt)
  have HR := Lib.hid (HR.out.keep hb3 HR.out.lt)
  have HC : Hid (W3.cell? ⟨C, 0, none⟩ = some (.string nm) ∧ W3.cell? ⟨C, 1, none⟩ = some (.int .i64 at_) ∧ W3.cell? ⟨C, 2, none⟩ = some (.int .i64 ph) ∧ W3.cell? ⟨C, 3, none⟩ = some (.int .i64 mn) ∧ W3.cell? ⟨C, 4, none⟩ = some (.int .i64 mx) ∧ W3.cell? ⟨C, 5, none⟩ = some (.int .i64 st) ∧ W3.cell? ⟨C, 6, none⟩ = some (.int .i64 fb) ∧ W3.cell? ⟨C, 7, none⟩ = some (.int .i64 ow)) := Lib.hid ⟨(hb3.cell (zb c0)).trans c0, (hb3.cell (zb c1)).trans c1, (hb3.cell (zb c2)).trans c2, (hb3.cell (zb c3)).trans c3, (hb3.cell (zb c4)).trans c4, (hb3.cell (zb c5)).trans c5, (hb3.cell (zb c6)).trans c6, (hb3.cell (zb c7)).trans c7⟩
  have HB := Lib.hid (below_then HB.out hb3)
  have HSW := Lib.hid (Nat.le_trans HSW.out hb3.size)
  clear hb3
  clear t0 t1 t2 t3 lT e0 e1 e2 lE c0 c1 c2 c3 c4 c5 c6 c7 lC
  obtain ⟨t0, t1, t2, t3⟩ : W3.cell? ⟨T, 0, none⟩ = some (.int .i64 4) ∧ W3.cell? ⟨T, 1, none⟩ = some (.int .i64 a) ∧ W3.cell? ⟨T, 2, none⟩ = some (.int .i64 l) ∧ W3.cell? ⟨T, 3, none⟩ = some (.bool false) := ⟨HT.out.cell (i := 0) (by omega), HT.out.cell (i := 1) (by omega), HT.out.cell (i := 2) (by omega), HT.out.cell (i := 3) (by omega)⟩
  have lT : T < W3.heap.size := HT.out.lt
  obtain ⟨e0, e1, e2⟩ : W3.cell? ⟨E, 0, none⟩ = some (.int .i64 8) ∧ W3.cell? ⟨E, 1, none⟩ = some (.int .i64 0) ∧ W3.cell? ⟨E, 2, none⟩ = some (.int .i64 0) := ⟨HE.out.cell (i := 0) (by omega), HE.out.cell (i := 1) (by omega), HE.out.cell (i := 2) (by omega)⟩
  have lE : E < W3.heap.size := HE.out.lt
  obtain ⟨c0, c1, c2, c3, c4, c5, c6, c7⟩ : W3.cell? ⟨C, 0, none⟩ = some (.string nm) ∧ W3.cell? ⟨C, 1, none⟩ = some (.int .i64 at_) ∧ W3.cell? ⟨C, 2, none⟩ = some (.int .i64 ph) ∧ W3.cell? ⟨C, 3, none⟩ = some (.int .i64 mn) ∧ W3.cell? ⟨C, 4, none⟩ = some (.int .i64 mx) ∧ W3.cell? ⟨C, 5, none⟩ = some (.int .i64 st) ∧ W3.cell? ⟨C, 6, none⟩ = some (.int .i64 fb) ∧ W3.cell? ⟨C, 7, none⟩ = some (.int .i64 ow) := HC.out
  have lC : C < W3.heap.size := zb c0
  have hG : W3.cell? ⟨0, 52, none⟩ = some (.int .i64 (-2)) := (HB.out.cell (zb HG.out)).trans HG.out
  have lG : 0 < W3.heap.size := zb hG
  go_upto_region 7 with (fail)
  refine region_z (S := fun w' => Below W3.heap.size W3 w') [] (by kernel_rfl) ((Below.refl _ _).drew) (fun hHeld => ?_)
  refine zt (i := 0) (v := .pointer (some ⟨E, 0, none⟩)) [] (fun w' hSw => ?_) hHeld ?_
  · have f0 := (hSw.cell (p := ⟨E, 0, none⟩) lE).trans e0
    have f1 := (hSw.cell (p := ⟨T, 0, none⟩) lT).trans t0
    have f2 := (hSw.cell (p := ⟨0, 52, none⟩) lG).trans hG
    have lE' : E < w'.heap.size := Nat.lt_of_lt_of_le lE hSw.size
    have lT' : T < w'.heap.size := Nat.lt_of_lt_of_le lT hSw.size
    have lG' : 0 < w'.heap.size := Nat.lt_of_lt_of_le lG hSw.size
    clear hHeld hSw
    go_simp
  simp only [Act.put, zl0, zl1, zl2, zl3, zl4, zl5]
  refine zt (i := 1) (v := .int .i64 8) [] (fun w' hSw => ?_) hHeld ?_
  · have f0 := (hSw.cell (p := ⟨E, 0, none⟩) lE).trans e0
    have f1 := (hSw.cell (p := ⟨T, 0, none⟩) lT).trans t0
    have f2 := (hSw.cell (p := ⟨0, 52, none⟩) lG).trans hG
    have lE' : E < w'.heap.size := Nat.lt_of_lt_of_le lE hSw.size
    have lT' : T < w'.heap.size := Nat.lt_of_lt_of_le lT hSw.size
    have lG' : 0 < w'.heap.size := Nat.lt_of_lt_of_le lG hSw.size
    clear hHeld hSw
    go_simp
  simp only [Act.put, zl0, zl1, zl2, zl3, zl4, zl5]
  refine zt (i := 2) (v := .pointer (some ⟨T, 0, none⟩)) [] (fun w' hSw => ?_) hHeld ?_
  · have f0 := (hSw.cell (p := ⟨E, 0, none⟩) lE).trans e0
    have f1 := (hSw.cell (p := ⟨T, 0, none⟩) lT).trans t0
    have f2 := (hSw.cell (p := ⟨0, 52, none⟩) lG).trans hG
    have lE' : E < w'.heap.size := Nat.lt_of_lt_of_le lE hSw.size
    have lT' : T < w'.heap.size := Nat.lt_of_lt_of_le lT hSw.size
    have lG' : 0 < w'.heap.size := Nat.lt_of_lt_of_le lG hSw.size
    clear hHeld hSw
    go_simp
  simp only [Act.put, zl0, zl1, zl2, zl3, zl4, zl5]
  refine zt (i := 3) (v := .int .i64 4) [] (fun w' hSw => ?_) hHeld ?_
  · have f0 := (hSw.cell (p := ⟨E, 0, none⟩) lE).trans e0
    have f1 := (hSw.cell (p := ⟨T, 0, none⟩) lT).trans t0
    have f2 := (hSw.cell (p := ⟨0, 52, none⟩) lG).trans hG
    have lE' : E < w'.heap.size := Nat.lt_of_lt_of_le lE hSw.size
    have lT' : T < w'.heap.size := Nat.lt_of_lt_of_le lT hSw.size
    have lG' : 0 < w'.heap.size := Nat.lt_of_lt_of_le lG hSw.size
    clear hHeld hSw
    go_simp
  simp only [Act.put, zl0, zl1, zl2, zl3, zl4, zl5]
  refine zt (i := 4) (v := .pointer (some ⟨0, 48, none⟩)) [] (fun w' hSw => ?_) hHeld ?_
  · have f0 := (hSw.cell (p := ⟨E, 0, none⟩) lE).trans e0
    have f1 := (hSw.cell (p := ⟨T, 0, none⟩) lT).trans t0
    have f2 := (hSw.cell (p := ⟨0, 52, none⟩) lG).trans hG
    have lE' : E < w'.heap.size := Nat.lt_of_lt_of_le lE hSw.size
    have lT' : T < w'.heap.size := Nat.lt_of_lt_of_le lT hSw.size
    have lG' : 0 < w'.heap.size := Nat.lt_of_lt_of_le lG hSw.size
    clear hHeld hSw
    go_simp
  simp only [Act.put, zl0, zl1, zl2, zl3, zl4, zl5]
  refine zt (i := 5) (v := .pointer (some ⟨0, 52, none⟩)) [] (fun w' hSw => ?_) hHeld ?_
  · have f0 := (hSw.cell (p := ⟨E, 0, none⟩) lE).trans e0
    have f1 := (hSw.cell (p := ⟨T, 0, none⟩) lT).trans t0
    have f2 := (hSw.cell (p := ⟨0, 52, none⟩) lG).trans hG
    have lE' : E < w'.heap.size := Nat.lt_of_lt_of_le lE hSw.size
    have lT' : T < w'.heap.size := Nat.lt_of_lt_of_le lT hSw.size
    have lG' : 0 < w'.heap.size := Nat.lt_of_lt_of_le lG hSw.size
    clear hHeld hSw
    go_simp
  simp only [Act.put, zl0, zl1, zl2, zl3, zl4, zl5]
  refine zt (i := 6) (v := .int .i64 (-2)) [] (fun w' hSw => ?_) hHeld ?_
  · have f0 := (hSw.cell (p := ⟨E, 0, none⟩) lE).trans e0
    have f1 := (hSw.cell (p := ⟨T, 0, none⟩) lT).trans t0
    have f2 := (hSw.cell (p := ⟨0, 52, none⟩) lG).trans hG
    have lE' : E < w'.heap.size := Nat.lt_of_lt_of_le lE hSw.size
    have lT' : T < w'.heap.size := Nat.lt_of_lt_of_le lT hSw.size
    have lG' : 0 < w'.heap.size := Nat.lt_of_lt_of_le lG hSw.size
    clear hHeld hSw
    go_simp
  simp only [Act.put, zl0, zl1, zl2, zl3, zl4, zl5]
  refine zt (i := 7) (v := .int .i64 (-2)) [] (fun w' hSw => ?_) hHeld ?_
  · have f0 := (hSw.cell (p := ⟨E, 0, none⟩) lE).trans e0
    have f1 := (hSw.cell (p := ⟨T, 0, none⟩) lT).trans t0
    have f2 := (hSw.cell (p := ⟨0, 52, none⟩) lG).trans hG
    have lE' : E < w'.heap.size := Nat.lt_of_lt_of_le lE hSw.size
    have lT' : T < w'.heap.size := Nat.lt_of_lt_of_le lT hSw.size
    have lG' : 0 < w'.heap.size := Nat.lt_of_lt_of_le lG hSw.size
    clear hHeld hSw
    go_simp
  simp only [Act.put, zl0, zl1, zl2, zl3, zl4, zl5]
  refine wpAnyZ_done (by kernel_rfl) ?_ _
  obtain ⟨W4, hW4⟩ : ∃ W, W = W3.drew := ⟨_, rfl⟩
  rw [← hW4] at hHeld ⊢
  clear hW4 hG lG
  have HT := Lib.hid (HT.out.keep hHeld HT.out.lt)
  have HE := Lib.hid (HE.out.keep hHeld HE.out.lt)
  have HR := Lib.hid (HR.out.keep hHeld HR.out.lt)
  have HC : Hid (W4.cell? ⟨C, 0, none⟩ = some (.string nm) ∧ W4.cell? ⟨C, 1, none⟩ = some (.int .i64 at_) ∧ W4.cell? ⟨C, 2, none⟩ = some (.int .i64 ph) ∧ W4.cell? ⟨C, 3, none⟩ = some (.int .i64 mn) ∧ W4.cell? ⟨C, 4, none⟩ = some (.int .i64 mx) ∧ W4.cell? ⟨C, 5, none⟩ = some (.int .i64 st) ∧ W4.cell? ⟨C, 6, none⟩ = some (.int .i64 fb) ∧ W4.cell? ⟨C, 7, none⟩ = some (.int .i64 ow)) := Lib.hid ⟨(hHeld.cell (zb c0)).trans c0, (hHeld.cell (zb c1)).trans c1, (hHeld.cell (zb c2)).trans c2, (hHeld.cell (zb c3)).trans c3, (hHeld.cell (zb c4)).trans c4, (hHeld.cell (zb c5)).trans c5, (hHeld.cell (zb c6)).trans c6, (hHeld.cell (zb c7)).trans c7⟩
  have HB := Lib.hid (below_then HB.out hHeld)
  have HSW := Lib.hid (Nat.le_trans HSW.out hHeld.size)
  clear hHeld
  clear t0 t1 t2 t3 lT e0 e1 e2 lE c0 c1 c2 c3 c4 c5 c6 c7 lC
  obtain ⟨t0, t1, t2, t3⟩ : W4.cell? ⟨T, 0, none⟩ = some (.int .i64 4) ∧ W4.cell? ⟨T, 1, none⟩ = some (.int .i64 a) ∧ W4.cell? ⟨T, 2, none⟩ = some (.int .i64 l) ∧ W4.cell? ⟨T, 3, none⟩ = some (.bool false) := ⟨HT.out.cell (i := 0) (by omega), HT.out.cell (i := 1) (by omega), HT.out.cell (i := 2) (by omega), HT.out.cell (i := 3) (by omega)⟩
  have lT : T < W4.heap.size := HT.out.lt
  obtain ⟨e0, e1, e2⟩ : W4.cell? ⟨E, 0, none⟩ = some (.int .i64 8) ∧ W4.cell? ⟨E, 1, none⟩ = some (.int .i64 0) ∧ W4.cell? ⟨E, 2, none⟩ = some (.int .i64 0) := ⟨HE.out.cell (i := 0) (by omega), HE.out.cell (i := 1) (by omega), HE.out.cell (i := 2) (by omega)⟩
  have lE : E < W4.heap.size := HE.out.lt
  obtain ⟨c0, c1, c2, c3, c4, c5, c6, c7⟩ : W4.cell? ⟨C, 0, none⟩ = some (.string nm) ∧ W4.cell? ⟨C, 1, none⟩ = some (.int .i64 at_) ∧ W4.cell? ⟨C, 2, none⟩ = some (.int .i64 ph) ∧ W4.cell? ⟨C, 3, none⟩ = some (.int .i64 mn) ∧ W4.cell? ⟨C, 4, none⟩ = some (.int .i64 mx) ∧ W4.cell? ⟨C, 5, none⟩ = some (.int .i64 st) ∧ W4.cell? ⟨C, 6, none⟩ = some (.int .i64 fb) ∧ W4.cell? ⟨C, 7, none⟩ = some (.int .i64 ow) := HC.out
  have lC : C < W4.heap.size := zb c0
  go_wp2_with fail
  refine (chChange_tick W4).mono ?_
  rintro e W5 ⟨rfl, hb5⟩
  have HT := Lib.hid (HT.out.keep hb5 HT.out.lt)
  have HE := Lib.hid (HE.out.keep hb5 HE.out.lt)
  have HR := Lib.hid (HR.out.keep hb5 HR.out.lt)
  have HC : Hid (W5.cell? ⟨C, 0, none⟩ = some (.string nm) ∧ W5.cell? ⟨C, 1, none⟩ = some (.int .i64 at_) ∧ W5.cell? ⟨C, 2, none⟩ = some (.int .i64 ph) ∧ W5.cell? ⟨C, 3, none⟩ = some (.int .i64 mn) ∧ W5.cell? ⟨C, 4, none⟩ = some (.int .i64 mx) ∧ W5.cell? ⟨C, 5, none⟩ = some (.int .i64 st) ∧ W5.cell? ⟨C, 6, none⟩ = some (.int .i64 fb) ∧ W5.cell? ⟨C, 7, none⟩ = some (.int .i64 ow)) := Lib.hid ⟨(hb5.cell (zb c0)).trans c0, (hb5.cell (zb c1)).trans c1, (hb5.cell (zb c2)).trans c2, (hb5.cell (zb c3)).trans c3, (hb5.cell (zb c4)).trans c4, (hb5.cell (zb c5)).trans c5, (hb5.cell (zb c6)).trans c6, (hb5.cell (zb c7)).trans c7⟩
  have HB := Lib.hid (below_then HB.out hb5)
  have HSW := Lib.hid (Nat.le_trans HSW.out hb5.size)
  clear hb5
  clear t0 t1 t2 t3 lT e0 e1 e2 lE c0 c1 c2 c3 c4 c5 c6 c7 lC
  go_wp2_with fail
  refine (chChange2_more T 4 a l W5 HT hl2 hl3).mono ?_
  rintro e W6 ⟨rfl, hT6, hm6⟩
  have HT := Lib.hid hT6
  have HR := Lib.hid (HR.out.mod hm6 (by have := HLT.out; omega))
  have HB := Lib.hid (HB.out.trans (hm6.below HB.out.size (fun j _ e => by have := HLT.out; omega)))
  clear hT6 hm6
  obtain ⟨t0, t1, t2, t3⟩ : W6.cell? ⟨T, 0, none⟩ = some (.int .i64 4) ∧ W6.cell? ⟨T, 1, none⟩ = some (.int .i64 a) ∧ W6.cell? ⟨T, 2, none⟩ = some (.int .i64 (l - 1)) ∧ W6.cell? ⟨T, 3, none⟩ = some (.bool false) := ⟨HT.out.cell (i := 0) (by omega), HT.out.cell (i := 1) (by omega), HT.out.cell (i := 2) (by omega), HT.out.cell (i := 3) (by omega)⟩
  have lT : T < W6.heap.size := HT.out.lt
  obtain ⟨r0, r1, r2, r3⟩ : W6.cell? ⟨R, 0, none⟩ = some (.int .i64 0) ∧ W6.cell? ⟨R, 1, none⟩ = some (.int .i64 0) ∧ W6.cell? ⟨R, 2, none⟩ = some (.int .i64 0) ∧ W6.cell? ⟨R, 3, none⟩ = some (.bool false) := ⟨HR.out.cell (i := 0) (by omega), HR.out.cell (i := 1) (by omega), HR.out.cell (i := 2) (by omega), HR.out.cell (i := 3) (by omega)⟩
  have lR : R < W6.heap.size := HR.out.lt
  have g0 := HR.out.frozen 0
  have g1 := HR.out.frozen 1
  have g2 := HR.out.frozen 2
  have g3 := HR.out.frozen 3
  have hne : ¬ T = R := HLT.out.2.2.2.2.1
  have hne2 : ¬ R = T := fun e => HLT.out.2.2.2.2.1 e.symm
  go_wp2_with fail
  obtain ⟨W7, hW7⟩ : ∃ W, W = (((W6.setCell ⟨R, 0, none⟩ (.int .i64 4)).setCell ⟨R, 1, none⟩ (.int .i64 a)).setCell ⟨R, 2, none⟩ (.int .i64 (l - 1))).setCell ⟨R, 3, none⟩ (.bool false) := ⟨_, rfl⟩
  have hm7 : Mod (fun j => j = R) W6 W7 := by rw [hW7]; exact ((((Mod.refl (fun j => j = R) W6).setCell (p := ⟨R, 0, none⟩) (.inl rfl) _).setCell (p := ⟨R, 1, none⟩) (.inl rfl) _).setCell (p := ⟨R, 2, none⟩) (.inl rfl) _).setCell (p := ⟨R, 3, none⟩) (.inl rfl) _
  have HR7 : Hid (Own W7 R 61 4 (csF 4 a (l - 1))) := Lib.hid (by rw [hW7]; exact ((((HR.out.set 0 _).set 1 _).set 2 _).set 3 _).congr (fun i hi => by match i, hi with | 0, _ => rfl | 1, _ => rfl | 2, _ => rfl | 3, _ => rfl))
  rw [← hW7]
  refine bodyPost_ret (results_ctT (a := 6) (t := 7) (ty := 61) (x := R) (by kernel_rfl) rfl (load_cs HR7.out)) rfl ?_
  exact ⟨rfl, HB.out.trans (hm7.below HB.out.size (fun j _ e => by have := HLT.out; omega))⟩
set_option maxRecDepth 100000 in
set_option maxHeartbeats 8000000 in
theorem chStep_tock (nm : ByteArray) (at_ ph mn mx st fb ow : Int) (a : Int) (w : World) (h : ChOk ph mn mx st fb) (ha0 : 0 ≤ a) (ha1 : a ≤ mx) (hG0 : w.cell? ⟨0, 52, none⟩ = some (.int .i64 (-2))) : Calls Tryz.prog 11 #[.agg #[.string nm, .int .i64 at_, .int .i64 ph, .int .i64 mn, .int .i64 mx, .int .i64 st, .int .i64 fb, .int .i64 ow], .agg #[.int .i64 4, .int .i64 a, .int .i64 1, .bool false], .agg #[.int .i64 8, .int .i64 0, .int .i64 0]] w fun e w' => e = .returned (.tuple #[.agg #[.int .i64 4, .int .i64 0, .int .i64 0, .bool false], .int .i64 0]) ∧ Below w.heap.size w w' := by
  have HCO := Lib.hid h
  obtain ⟨W0, hW0⟩ : ∃ W, W = (((w.alloc (.cells #[.string nm, .int .i64 at_, .int .i64 ph, .int .i64 mn, .int .i64 mx, .int .i64 st, .int .i64 fb, .int .i64 ow] 59)).alloc (.cells #[.int .i64 4, .int .i64 a, .int .i64 1, .bool false] 61)).alloc (.cells #[.int .i64 8, .int .i64 0, .int .i64 0] 65)).alloc (.cells #[.int .i64 0, .int .i64 0, .int .i64 0, .bool false] 61) := ⟨_, rfl⟩
  obtain ⟨C, hC⟩ : ∃ S, S = w.heap.size := ⟨_, rfl⟩
  obtain ⟨T, hT⟩ : ∃ S, S = w.heap.size + 1 := ⟨_, rfl⟩
  obtain ⟨E, hE⟩ : ∃ S, S = w.heap.size + 1 + 1 := ⟨_, rfl⟩
  obtain ⟨R, hR⟩ : ∃ S, S = w.heap.size + 1 + 1 + 1 := ⟨_, rfl⟩
  have hb0 : Below w.heap.size w W0 := by rw [hW0]; exact ((((Below.refl _ _).alloc (Nat.le_refl _) _).alloc (by simp) _).alloc (by simp; omega) _).alloc (by simp; omega) _
  have HC : Hid (W0.cell? ⟨C, 0, none⟩ = some (.string nm) ∧ W0.cell? ⟨C, 1, none⟩ = some (.int .i64 at_) ∧ W0.cell? ⟨C, 2, none⟩ = some (.int .i64 ph) ∧ W0.cell? ⟨C, 3, none⟩ = some (.int .i64 mn) ∧ W0.cell? ⟨C, 4, none⟩ = some (.int .i64 mx) ∧ W0.cell? ⟨C, 5, none⟩ = some (.int .i64 st) ∧ W0.cell? ⟨C, 6, none⟩ = some (.int .i64 fb) ∧ W0.cell? ⟨C, 7, none⟩ = some (.int .i64 ow)) := Lib.hid (by rw [hW0, hC]; exact ⟨by go_simp, by go_simp, by go_simp, by go_simp, by go_simp, by go_simp, by go_simp, by go_simp⟩)
  have HT : Hid (Own W0 T 61 4 (csF 4 a 1)) := Lib.hid (by rw [hW0, hT]; exact ((Own.newAt _ 61 _ _ (by simp) (n := 4) rfl (fun i hi => by match i, hi with | 0, _ => rfl | 1, _ => rfl | 2, _ => rfl | 3, _ => rfl)).alloc _).alloc _)
  have HE : Hid (Own W0 E 65 3 (evF 8 0 0)) := Lib.hid (by rw [hW0, hE]; exact (Own.newAt _ 65 _ _ (by simp) (n := 3) rfl (fun i hi => by match i, hi with | 0, _ => rfl | 1, _ => rfl | 2, _ => rfl)).alloc _)
  have HR : Hid (Own W0 R 61 4 (csF 0 0 0)) := Lib.hid (by rw [hW0, hR]; exact Own.newAt _ 61 _ _ (by simp) (n := 4) rfl (fun i hi => by match i, hi with | 0, _ => rfl | 1, _ => rfl | 2, _ => rfl | 3, _ => rfl))
  have HLT : Hid (w.heap.size ≤ C ∧ w.heap.size ≤ T ∧ w.heap.size ≤ E ∧ w.heap.size ≤ R ∧ T ≠ R ∧ E ≠ T) := Lib.hid (by omega)
  have HB := Lib.hid hb0
  have HSW : Hid (W0.heap.size ≤ W0.heap.size) := Lib.hid (Nat.le_refl _)
  have HG := Lib.hid hG0
  have HW0 := Lib.hid (And.intro hW0.symm (And.intro hC.symm (And.intro hT.symm (And.intro hE.symm hR.symm))))
  clear hW0 hb0 hC hT hE hR hG0 h
  go_enter Tryz.func11, Tryz.ntmps11
  go_upto_region 1 with (fail)
  try simp only [World.size_alloc]
  rw [HW0.out.1, HW0.out.2.2.2.2, HW0.out.2.2.2.1, HW0.out.2.2.1, HW0.out.2.1]
  clear HW0
  obtain ⟨t0, t1, t2, t3⟩ : W0.cell? ⟨T, 0, none⟩ = some (.int .i64 4) ∧ W0.cell? ⟨T, 1, none⟩ = some (.int .i64 a) ∧ W0.cell? ⟨T, 2, none⟩ = some (.int .i64 1) ∧ W0.cell? ⟨T, 3, none⟩ = some (.bool false) := ⟨HT.out.cell (i := 0) (by omega), HT.out.cell (i := 1) (by omega), HT.out.cell (i := 2) (by omega), HT.out.cell (i := 3) (by omega)⟩
  have lT : T < W0.heap.size := HT.out.lt
  obtain ⟨e0, e1, e2⟩ : W0.cell? ⟨E, 0, none⟩ = some (.int .i64 8) ∧ W0.cell? ⟨E, 1, none⟩ = some (.int .i64 0) ∧ W0.cell? ⟨E, 2, none⟩ = some (.int .i64 0) := ⟨HE.out.cell (i := 0) (by omega), HE.out.cell (i := 1) (by omega), HE.out.cell (i := 2) (by omega)⟩
  have lE : E < W0.heap.size := HE.out.lt
  obtain ⟨c0, c1, c2, c3, c4, c5, c6, c7⟩ : W0.cell? ⟨C, 0, none⟩ = some (.string nm) ∧ W0.cell? ⟨C, 1, none⟩ = some (.int .i64 at_) ∧ W0.cell? ⟨C, 2, none⟩ = some (.int .i64 ph) ∧ W0.cell? ⟨C, 3, none⟩ = some (.int .i64 mn) ∧ W0.cell? ⟨C, 4, none⟩ = some (.int .i64 mx) ∧ W0.cell? ⟨C, 5, none⟩ = some (.int .i64 st) ∧ W0.cell? ⟨C, 6, none⟩ = some (.int .i64 fb) ∧ W0.cell? ⟨C, 7, none⟩ = some (.int .i64 ow) := HC.out
  have lC : C < W0.heap.size := zb c0
  go_wp2_with fail
  refine (chValid_on nm at_ ph mn mx st fb ow a 1 W0 HCO.out (by omega) (by omega) (by omega) ha0 ha1).mono ?_
  rintro e W1 ⟨rfl, hb1⟩
  have HT := Lib.hid (HT.out.keep hb1 HT.out.lt)
  have HE := Lib.hid (HE.out.keep hb1 HE.out.lt)
  have HR := Lib.hid (HR.out.keep hb1 HR.out.lt)
  have HC : Hid (W1.cell? ⟨C, 0, none⟩ = some (.string nm) ∧ W1.cell? ⟨C, 1, none⟩ = some (.int .i64 at_) ∧ W1.cell? ⟨C, 2, none⟩ = some (.int .i64 ph) ∧ W1.cell? ⟨C, 3, none⟩ = some (.int .i64 mn) ∧ W1.cell? ⟨C, 4, none⟩ = some (.int .i64 mx) ∧ W1.cell? ⟨C, 5, none⟩ = some (.int .i64 st) ∧ W1.cell? ⟨C, 6, none⟩ = some (.int .i64 fb) ∧ W1.cell? ⟨C, 7, none⟩ = some (.int .i64 ow)) := Lib.hid ⟨(hb1.cell (zb c0)).trans c0, (hb1.cell (zb c1)).trans c1, (hb1.cell (zb c2)).trans c2, (hb1.cell (zb c3)).trans c3, (hb1.cell (zb c4)).trans c4, (hb1.cell (zb c5)).trans c5, (hb1.cell (zb c6)).trans c6, (hb1.cell (zb c7)).trans c7⟩
  have HB := Lib.hid (below_then HB.out hb1)
  have HSW := Lib.hid (Nat.le_trans HSW.out hb1.size)
  clear hb1
  clear t0 t1 t2 t3 lT e0 e1 e2 lE c0 c1 c2 c3 c4 c5 c6 c7 lC
  obtain ⟨t0, t1, t2, t3⟩ : W1.cell? ⟨T, 0, none⟩ = some (.int .i64 4) ∧ W1.cell? ⟨T, 1, none⟩ = some (.int .i64 a) ∧ W1.cell? ⟨T, 2, none⟩ = some (.int .i64 1) ∧ W1.cell? ⟨T, 3, none⟩ = some (.bool false) := ⟨HT.out.cell (i := 0) (by omega), HT.out.cell (i := 1) (by omega), HT.out.cell (i := 2) (by omega), HT.out.cell (i := 3) (by omega)⟩
  have lT : T < W1.heap.size := HT.out.lt
  obtain ⟨e0, e1, e2⟩ : W1.cell? ⟨E, 0, none⟩ = some (.int .i64 8) ∧ W1.cell? ⟨E, 1, none⟩ = some (.int .i64 0) ∧ W1.cell? ⟨E, 2, none⟩ = some (.int .i64 0) := ⟨HE.out.cell (i := 0) (by omega), HE.out.cell (i := 1) (by omega), HE.out.cell (i := 2) (by omega)⟩
  have lE : E < W1.heap.size := HE.out.lt
  obtain ⟨c0, c1, c2, c3, c4, c5, c6, c7⟩ : W1.cell? ⟨C, 0, none⟩ = some (.string nm) ∧ W1.cell? ⟨C, 1, none⟩ = some (.int .i64 at_) ∧ W1.cell? ⟨C, 2, none⟩ = some (.int .i64 ph) ∧ W1.cell? ⟨C, 3, none⟩ = some (.int .i64 mn) ∧ W1.cell? ⟨C, 4, none⟩ = some (.int .i64 mx) ∧ W1.cell? ⟨C, 5, none⟩ = some (.int .i64 st) ∧ W1.cell? ⟨C, 6, none⟩ = some (.int .i64 fb) ∧ W1.cell? ⟨C, 7, none⟩ = some (.int .i64 ow) := HC.out
  have lC : C < W1.heap.size := zb c0
  go_wp2_with (go_at_call 27; refine (chIn_ok _ _ _ _ (by omega) (by omega)).mono ?_; rintro e w' ⟨rfl, hw⟩; have hw := hw.symm; subst hw)
  refine (chEvent_tick nm at_ ph mn mx st fb ow 0 0 W1).mono ?_
  rintro e W3 ⟨rfl, hb3⟩
  have HT := Lib.hid (HT.out.keep hb3 HT.out.lt)
  have HE := Lib.hid (HE.out.keep hb3 HE.out.lt)
  have HR := Lib.hid (HR.out.keep hb3 HR.out.lt)
  have HC : Hid (W3.cell? ⟨C, 0, none⟩ = some (.string nm) ∧ W3.cell? ⟨C, 1, none⟩ = some (.int .i64 at_) ∧ W3.cell? ⟨C, 2, none⟩ = some (.int .i64 ph) ∧ W3.cell? ⟨C, 3, none⟩ = some (.int .i64 mn) ∧ W3.cell? ⟨C, 4, none⟩ = some (.int .i64 mx) ∧ W3.cell? ⟨C, 5, none⟩ = some (.int .i64 st) ∧ W3.cell? ⟨C, 6, none⟩ = some (.int .i64 fb) ∧ W3.cell? ⟨C, 7, none⟩ = some (.int .i64 ow)) := Lib.hid ⟨(hb3.cell (zb c0)).trans c0, (hb3.cell (zb c1)).trans c1, (hb3.cell (zb c2)).trans c2, (hb3.cell (zb c3)).trans c3, (hb3.cell (zb c4)).trans c4, (hb3.cell (zb c5)).trans c5, (hb3.cell (zb c6)).trans c6, (hb3.cell (zb c7)).trans c7⟩
  have HB := Lib.hid (below_then HB.out hb3)
  have HSW := Lib.hid (Nat.le_trans HSW.out hb3.size)
  clear hb3
  clear t0 t1 t2 t3 lT e0 e1 e2 lE c0 c1 c2 c3 c4 c5 c6 c7 lC
  obtain ⟨t0, t1, t2, t3⟩ : W3.cell? ⟨T, 0, none⟩ = some (.int .i64 4) ∧ W3.cell? ⟨T, 1, none⟩ = some (.int .i64 a) ∧ W3.cell? ⟨T, 2, none⟩ = some (.int .i64 1) ∧ W3.cell? ⟨T, 3, none⟩ = some (.bool false) := ⟨HT.out.cell (i := 0) (by omega), HT.out.cell (i := 1) (by omega), HT.out.cell (i := 2) (by omega), HT.out.cell (i := 3) (by omega)⟩
  have lT : T < W3.heap.size := HT.out.lt
  obtain ⟨e0, e1, e2⟩ : W3.cell? ⟨E, 0, none⟩ = some (.int .i64 8) ∧ W3.cell? ⟨E, 1, none⟩ = some (.int .i64 0) ∧ W3.cell? ⟨E, 2, none⟩ = some (.int .i64 0) := ⟨HE.out.cell (i := 0) (by omega), HE.out.cell (i := 1) (by omega), HE.out.cell (i := 2) (by omega)⟩
  have lE : E < W3.heap.size := HE.out.lt
  obtain ⟨c0, c1, c2, c3, c4, c5, c6, c7⟩ : W3.cell? ⟨C, 0, none⟩ = some (.string nm) ∧ W3.cell? ⟨C, 1, none⟩ = some (.int .i64 at_) ∧ W3.cell? ⟨C, 2, none⟩ = some (.int .i64 ph) ∧ W3.cell? ⟨C, 3, none⟩ = some (.int .i64 mn) ∧ W3.cell? ⟨C, 4, none⟩ = some (.int .i64 mx) ∧ W3.cell? ⟨C, 5, none⟩ = some (.int .i64 st) ∧ W3.cell? ⟨C, 6, none⟩ = some (.int .i64 fb) ∧ W3.cell? ⟨C, 7, none⟩ = some (.int .i64 ow) := HC.out
  have lC : C < W3.heap.size := zb c0
  have hG : W3.cell? ⟨0, 52, none⟩ = some (.int .i64 (-2)) := (HB.out.cell (zb HG.out)).trans HG.out
  have lG : 0 < W3.heap.size := zb hG
  go_upto_region 7 with (fail)
  refine region_z (S := fun w' => Below W3.heap.size W3 w') [] (by kernel_rfl) ((Below.refl _ _).drew) (fun hHeld => ?_)
  refine zt (i := 0) (v := .pointer (some ⟨E, 0, none⟩)) [] (fun w' hSw => ?_) hHeld ?_
  · have f0 := (hSw.cell (p := ⟨E, 0, none⟩) lE).trans e0
    have f1 := (hSw.cell (p := ⟨T, 0, none⟩) lT).trans t0
    have f2 := (hSw.cell (p := ⟨0, 52, none⟩) lG).trans hG
    have lE' : E < w'.heap.size := Nat.lt_of_lt_of_le lE hSw.size
    have lT' : T < w'.heap.size := Nat.lt_of_lt_of_le lT hSw.size
    have lG' : 0 < w'.heap.size := Nat.lt_of_lt_of_le lG hSw.size
    clear hHeld hSw
    go_simp
  simp only [Act.put, zl0, zl1, zl2, zl3, zl4, zl5]
  refine zt (i := 1) (v := .int .i64 8) [] (fun w' hSw => ?_) hHeld ?_
  · have f0 := (hSw.cell (p := ⟨E, 0, none⟩) lE).trans e0
    have f1 := (hSw.cell (p := ⟨T, 0, none⟩) lT).trans t0
    have f2 := (hSw.cell (p := ⟨0, 52, none⟩) lG).trans hG
    have lE' : E < w'.heap.size := Nat.lt_of_lt_of_le lE hSw.size
    have lT' : T < w'.heap.size := Nat.lt_of_lt_of_le lT hSw.size
    have lG' : 0 < w'.heap.size := Nat.lt_of_lt_of_le lG hSw.size
    clear hHeld hSw
    go_simp
  simp only [Act.put, zl0, zl1, zl2, zl3, zl4, zl5]
  refine zt (i := 2) (v := .pointer (some ⟨T, 0, none⟩)) [] (fun w' hSw => ?_) hHeld ?_
  · have f0 := (hSw.cell (p := ⟨E, 0, none⟩) lE).trans e0
    have f1 := (hSw.cell (p := ⟨T, 0, none⟩) lT).trans t0
    have f2 := (hSw.cell (p := ⟨0, 52, none⟩) lG).trans hG
    have lE' : E < w'.heap.size := Nat.lt_of_lt_of_le lE hSw.size
    have lT' : T < w'.heap.size := Nat.lt_of_lt_of_le lT hSw.size
    have lG' : 0 < w'.heap.size := Nat.lt_of_lt_of_le lG hSw.size
    clear hHeld hSw
    go_simp
  simp only [Act.put, zl0, zl1, zl2, zl3, zl4, zl5]
  refine zt (i := 3) (v := .int .i64 4) [] (fun w' hSw => ?_) hHeld ?_
  · have f0 := (hSw.cell (p := ⟨E, 0, none⟩) lE).trans e0
    have f1 := (hSw.cell (p := ⟨T, 0, none⟩) lT).trans t0
    have f2 := (hSw.cell (p := ⟨0, 52, none⟩) lG).trans hG
    have lE' : E < w'.heap.size := Nat.lt_of_lt_of_le lE hSw.size
    have lT' : T < w'.heap.size := Nat.lt_of_lt_of_le lT hSw.size
    have lG' : 0 < w'.heap.size := Nat.lt_of_lt_of_le lG hSw.size
    clear hHeld hSw
    go_simp
  simp only [Act.put, zl0, zl1, zl2, zl3, zl4, zl5]
  refine zt (i := 4) (v := .pointer (some ⟨0, 48, none⟩)) [] (fun w' hSw => ?_) hHeld ?_
  · have f0 := (hSw.cell (p := ⟨E, 0, none⟩) lE).trans e0
    have f1 := (hSw.cell (p := ⟨T, 0, none⟩) lT).trans t0
    have f2 := (hSw.cell (p := ⟨0, 52, none⟩) lG).trans hG
    have lE' : E < w'.heap.size := Nat.lt_of_lt_of_le lE hSw.size
    have lT' : T < w'.heap.size := Nat.lt_of_lt_of_le lT hSw.size
    have lG' : 0 < w'.heap.size := Nat.lt_of_lt_of_le lG hSw.size
    clear hHeld hSw
    go_simp
  simp only [Act.put, zl0, zl1, zl2, zl3, zl4, zl5]
  refine zt (i := 5) (v := .pointer (some ⟨0, 52, none⟩)) [] (fun w' hSw => ?_) hHeld ?_
  · have f0 := (hSw.cell (p := ⟨E, 0, none⟩) lE).trans e0
    have f1 := (hSw.cell (p := ⟨T, 0, none⟩) lT).trans t0
    have f2 := (hSw.cell (p := ⟨0, 52, none⟩) lG).trans hG
    have lE' : E < w'.heap.size := Nat.lt_of_lt_of_le lE hSw.size
    have lT' : T < w'.heap.size := Nat.lt_of_lt_of_le lT hSw.size
    have lG' : 0 < w'.heap.size := Nat.lt_of_lt_of_le lG hSw.size
    clear hHeld hSw
    go_simp
  simp only [Act.put, zl0, zl1, zl2, zl3, zl4, zl5]
  refine zt (i := 6) (v := .int .i64 (-2)) [] (fun w' hSw => ?_) hHeld ?_
  · have f0 := (hSw.cell (p := ⟨E, 0, none⟩) lE).trans e0
    have f1 := (hSw.cell (p := ⟨T, 0, none⟩) lT).trans t0
    have f2 := (hSw.cell (p := ⟨0, 52, none⟩) lG).trans hG
    have lE' : E < w'.heap.size := Nat.lt_of_lt_of_le lE hSw.size
    have lT' : T < w'.heap.size := Nat.lt_of_lt_of_le lT hSw.size
    have lG' : 0 < w'.heap.size := Nat.lt_of_lt_of_le lG hSw.size
    clear hHeld hSw
    go_simp
  simp only [Act.put, zl0, zl1, zl2, zl3, zl4, zl5]
  refine zt (i := 7) (v := .int .i64 (-2)) [] (fun w' hSw => ?_) hHeld ?_
  · have f0 := (hSw.cell (p := ⟨E, 0, none⟩) lE).trans e0
    have f1 := (hSw.cell (p := ⟨T, 0, none⟩) lT).trans t0
    have f2 := (hSw.cell (p := ⟨0, 52, none⟩) lG).trans hG
    have lE' : E < w'.heap.size := Nat.lt_of_lt_of_le lE hSw.size
    have lT' : T < w'.heap.size := Nat.lt_of_lt_of_le lT hSw.size
    have lG' : 0 < w'.heap.size := Nat.lt_of_lt_of_le lG hSw.size
    clear hHeld hSw
    go_simp
  simp only [Act.put, zl0, zl1, zl2, zl3, zl4, zl5]
  refine wpAnyZ_done (by kernel_rfl) ?_ _
  obtain ⟨W4, hW4⟩ : ∃ W, W = W3.drew := ⟨_, rfl⟩
  rw [← hW4] at hHeld ⊢
  clear hW4 hG lG
  have HT := Lib.hid (HT.out.keep hHeld HT.out.lt)
  have HE := Lib.hid (HE.out.keep hHeld HE.out.lt)
  have HR := Lib.hid (HR.out.keep hHeld HR.out.lt)
  have HC : Hid (W4.cell? ⟨C, 0, none⟩ = some (.string nm) ∧ W4.cell? ⟨C, 1, none⟩ = some (.int .i64 at_) ∧ W4.cell? ⟨C, 2, none⟩ = some (.int .i64 ph) ∧ W4.cell? ⟨C, 3, none⟩ = some (.int .i64 mn) ∧ W4.cell? ⟨C, 4, none⟩ = some (.int .i64 mx) ∧ W4.cell? ⟨C, 5, none⟩ = some (.int .i64 st) ∧ W4.cell? ⟨C, 6, none⟩ = some (.int .i64 fb) ∧ W4.cell? ⟨C, 7, none⟩ = some (.int .i64 ow)) := Lib.hid ⟨(hHeld.cell (zb c0)).trans c0, (hHeld.cell (zb c1)).trans c1, (hHeld.cell (zb c2)).trans c2, (hHeld.cell (zb c3)).trans c3, (hHeld.cell (zb c4)).trans c4, (hHeld.cell (zb c5)).trans c5, (hHeld.cell (zb c6)).trans c6, (hHeld.cell (zb c7)).trans c7⟩
  have HB := Lib.hid (below_then HB.out hHeld)
  have HSW := Lib.hid (Nat.le_trans HSW.out hHeld.size)
  clear hHeld
  clear t0 t1 t2 t3 lT e0 e1 e2 lE c0 c1 c2 c3 c4 c5 c6 c7 lC
  obtain ⟨t0, t1, t2, t3⟩ : W4.cell? ⟨T, 0, none⟩ = some (.int .i64 4) ∧ W4.cell? ⟨T, 1, none⟩ = some (.int .i64 a) ∧ W4.cell? ⟨T, 2, none⟩ = some (.int .i64 1) ∧ W4.cell? ⟨T, 3, none⟩ = some (.bool false) := ⟨HT.out.cell (i := 0) (by omega), HT.out.cell (i := 1) (by omega), HT.out.cell (i := 2) (by omega), HT.out.cell (i := 3) (by omega)⟩
  have lT : T < W4.heap.size := HT.out.lt
  obtain ⟨e0, e1, e2⟩ : W4.cell? ⟨E, 0, none⟩ = some (.int .i64 8) ∧ W4.cell? ⟨E, 1, none⟩ = some (.int .i64 0) ∧ W4.cell? ⟨E, 2, none⟩ = some (.int .i64 0) := ⟨HE.out.cell (i := 0) (by omega), HE.out.cell (i := 1) (by omega), HE.out.cell (i := 2) (by omega)⟩
  have lE : E < W4.heap.size := HE.out.lt
  obtain ⟨c0, c1, c2, c3, c4, c5, c6, c7⟩ : W4.cell? ⟨C, 0, none⟩ = some (.string nm) ∧ W4.cell? ⟨C, 1, none⟩ = some (.int .i64 at_) ∧ W4.cell? ⟨C, 2, none⟩ = some (.int .i64 ph) ∧ W4.cell? ⟨C, 3, none⟩ = some (.int .i64 mn) ∧ W4.cell? ⟨C, 4, none⟩ = some (.int .i64 mx) ∧ W4.cell? ⟨C, 5, none⟩ = some (.int .i64 st) ∧ W4.cell? ⟨C, 6, none⟩ = some (.int .i64 fb) ∧ W4.cell? ⟨C, 7, none⟩ = some (.int .i64 ow) := HC.out
  have lC : C < W4.heap.size := zb c0
  go_wp2_with fail
  refine (chChange_tick W4).mono ?_
  rintro e W5 ⟨rfl, hb5⟩
  have HT := Lib.hid (HT.out.keep hb5 HT.out.lt)
  have HE := Lib.hid (HE.out.keep hb5 HE.out.lt)
  have HR := Lib.hid (HR.out.keep hb5 HR.out.lt)
  have HC : Hid (W5.cell? ⟨C, 0, none⟩ = some (.string nm) ∧ W5.cell? ⟨C, 1, none⟩ = some (.int .i64 at_) ∧ W5.cell? ⟨C, 2, none⟩ = some (.int .i64 ph) ∧ W5.cell? ⟨C, 3, none⟩ = some (.int .i64 mn) ∧ W5.cell? ⟨C, 4, none⟩ = some (.int .i64 mx) ∧ W5.cell? ⟨C, 5, none⟩ = some (.int .i64 st) ∧ W5.cell? ⟨C, 6, none⟩ = some (.int .i64 fb) ∧ W5.cell? ⟨C, 7, none⟩ = some (.int .i64 ow)) := Lib.hid ⟨(hb5.cell (zb c0)).trans c0, (hb5.cell (zb c1)).trans c1, (hb5.cell (zb c2)).trans c2, (hb5.cell (zb c3)).trans c3, (hb5.cell (zb c4)).trans c4, (hb5.cell (zb c5)).trans c5, (hb5.cell (zb c6)).trans c6, (hb5.cell (zb c7)).trans c7⟩
  have HB := Lib.hid (below_then HB.out hb5)
  have HSW := Lib.hid (Nat.le_trans HSW.out hb5.size)
  clear hb5
  clear t0 t1 t2 t3 lT e0 e1 e2 lE c0 c1 c2 c3 c4 c5 c6 c7 lC
  go_wp2_with fail
  refine (chChange2_last T 4 a W5 HT).mono ?_
  rintro e W6 ⟨rfl, hT6, hm6⟩
  have HT := Lib.hid hT6
  have HR := Lib.hid (HR.out.mod hm6 (by have := HLT.out; omega))
  have HB := Lib.hid (HB.out.trans (hm6.below HB.out.size (fun j _ e => by have := HLT.out; omega)))
  clear hT6 hm6
  obtain ⟨t0, t1, t2, t3⟩ : W6.cell? ⟨T, 0, none⟩ = some (.int .i64 4) ∧ W6.cell? ⟨T, 1, none⟩ = some (.int .i64 0) ∧ W6.cell? ⟨T, 2, none⟩ = some (.int .i64 0) ∧ W6.cell? ⟨T, 3, none⟩ = some (.bool false) := ⟨HT.out.cell (i := 0) (by omega), HT.out.cell (i := 1) (by omega), HT.out.cell (i := 2) (by omega), HT.out.cell (i := 3) (by omega)⟩
  have lT : T < W6.heap.size := HT.out.lt
  obtain ⟨r0, r1, r2, r3⟩ : W6.cell? ⟨R, 0, none⟩ = some (.int .i64 0) ∧ W6.cell? ⟨R, 1, none⟩ = some (.int .i64 0) ∧ W6.cell? ⟨R, 2, none⟩ = some (.int .i64 0) ∧ W6.cell? ⟨R, 3, none⟩ = some (.bool false) := ⟨HR.out.cell (i := 0) (by omega), HR.out.cell (i := 1) (by omega), HR.out.cell (i := 2) (by omega), HR.out.cell (i := 3) (by omega)⟩
  have lR : R < W6.heap.size := HR.out.lt
  have g0 := HR.out.frozen 0
  have g1 := HR.out.frozen 1
  have g2 := HR.out.frozen 2
  have g3 := HR.out.frozen 3
  have hne : ¬ T = R := HLT.out.2.2.2.2.1
  have hne2 : ¬ R = T := fun e => HLT.out.2.2.2.2.1 e.symm
  go_wp2_with fail
  obtain ⟨W7, hW7⟩ : ∃ W, W = (((W6.setCell ⟨R, 0, none⟩ (.int .i64 4)).setCell ⟨R, 1, none⟩ (.int .i64 0)).setCell ⟨R, 2, none⟩ (.int .i64 0)).setCell ⟨R, 3, none⟩ (.bool false) := ⟨_, rfl⟩
  have hm7 : Mod (fun j => j = R) W6 W7 := by rw [hW7]; exact ((((Mod.refl (fun j => j = R) W6).setCell (p := ⟨R, 0, none⟩) (.inl rfl) _).setCell (p := ⟨R, 1, none⟩) (.inl rfl) _).setCell (p := ⟨R, 2, none⟩) (.inl rfl) _).setCell (p := ⟨R, 3, none⟩) (.inl rfl) _
  have HR7 : Hid (Own W7 R 61 4 (csF 4 0 0)) := Lib.hid (by rw [hW7]; exact ((((HR.out.set 0 _).set 1 _).set 2 _).set 3 _).congr (fun i hi => by match i, hi with | 0, _ => rfl | 1, _ => rfl | 2, _ => rfl | 3, _ => rfl))
  rw [← hW7]
  refine bodyPost_ret (results_ctT (a := 6) (t := 7) (ty := 61) (x := R) (by kernel_rfl) rfl (load_cs HR7.out)) rfl ?_
  exact ⟨rfl, HB.out.trans (hm7.below HB.out.size (fun j _ e => by have := HLT.out; omega))⟩
end Go.Proofs.YtkbbapefgifagaaGreatDoor
