/-
Two controllers: package charger, as far as the head of this law goes.
-/
import Derived.Test.YtkbbapefgifagaaGreatDoorGTwO
namespace Go.Proofs.YtkbbapefgifagaaGreatDoor
open Go.RowKit
set_option linter.unusedVariables false
set_option linter.unusedSimpArgs false
/-- A charger's numbers. -/
structure ChOk (ph mn mx st fb : Int) : Prop where
  p1 : 1 ≤ ph
  p2 : ph ≤ 7
  m1 : 1 ≤ mn
  x2 : mx ≤ 80
  s1 : 1 ≤ st
  s2 : st ≤ 80
  mm : mn ≤ mx
  fb : fb = 0 ∨ mn ≤ fb ∧ fb ≤ mx
theorem chIn_ok (n a b : Int) (w : World) (h1 : a ≤ n) (h2 : n ≤ b) : Calls Tryz.prog 27 #[.int .i64 n, .int .i64 a, .int .i64 b] w fun e w' => e = .returned (.bool true) ∧ w' = w := by
  go_enter Tryz.func27, Tryz.ntmps27
  go_wp2
  go_ret
  exact ⟨rfl, rfl⟩
set_option maxRecDepth 100000 in
theorem chVal_ok (nm : ByteArray) (at_ ph mn mx st fb ow : Int) (w : World) (h : ChOk ph mn mx st fb) : Calls Tryz.prog 48 #[.agg #[.string nm, .int .i64 at_, .int .i64 ph, .int .i64 mn, .int .i64 mx, .int .i64 st, .int .i64 fb, .int .i64 ow]] w fun e w' => e = .returned (.bool true) ∧ Below w.heap.size w w' := by
  obtain ⟨h1, h2, h3, h4, h5, h6, h7, h8⟩ := h
  by_cases hf : fb = 0
  · subst hf
    go_enter Tryz.func48, Tryz.ntmps48
    go_wp2_with (go_at_call 27; refine (chIn_ok _ _ _ _ (by omega) (by omega)).mono ?_; rintro e w' ⟨rfl, hw⟩; have hw := hw.symm; subst hw)
    go_ret
    exact ⟨rfl, (Below.refl _ _).alloc (Nat.le_refl _) _⟩
  · have h9 : mn ≤ fb ∧ fb ≤ mx := h8.resolve_left hf
    obtain ⟨h9, h10⟩ := h9
    have hfb : (fb == 0) = false := by simpa using hf
    clear h8
    go_enter Tryz.func48, Tryz.ntmps48
    go_wp2_with (go_at_call 27; refine (chIn_ok _ _ _ _ (by omega) (by omega)).mono ?_; rintro e w' ⟨rfl, hw⟩; have hw := hw.symm; subst hw)
    go_ret
    exact ⟨rfl, (Below.refl _ _).alloc (Nat.le_refl _) _⟩
theorem chStart_any (w : World) : Calls Tryz.prog 49 #[] w fun e w' => e = .returned (.agg #[.int .i64 0, .int .i64 0, .int .i64 0, .bool false]) ∧ Below w.heap.size w w' := by
  go_enter Tryz.func49, Tryz.ntmps49
  go_wp2_with fail
  refine bodyPost_ret (results_c1S (a := 0) (ty := 61) (b := w.heap.size) (x := .agg #[.int .i64 0, .int .i64 0, .int .i64 0, .bool false]) (by kernel_rfl) rfl (by go_simp)) rfl ?_
  exact ⟨rfl, (Below.refl _ _).alloc (Nat.le_refl _) _⟩
theorem eq_on (a l : Int) (W : World) : (binOp .eql 61 (.agg #[.int .i64 4, .int .i64 a, .int .i64 l, .bool false]) (.agg #[.int .i64 0, .int .i64 0, .int .i64 0, .bool false])).run Tryz.prog W = .ok (.bool false) W := by kernel_rfl
set_option maxRecDepth 100000 in
set_option maxHeartbeats 8000000 in
theorem chValid_start (nm : ByteArray) (at_ ph mn mx st fb ow : Int) (w : World) (h : ChOk ph mn mx st fb) : Calls Tryz.prog 26 #[.agg #[.string nm, .int .i64 at_, .int .i64 ph, .int .i64 mn, .int .i64 mx, .int .i64 st, .int .i64 fb, .int .i64 ow], .agg #[.int .i64 0, .int .i64 0, .int .i64 0, .bool false]] w fun e w' => e = .returned (.bool true) ∧ Below w.heap.size w w' := by
  have heq : ∀ W : World, (binOp .eql 61 (.agg #[.int .i64 0, .int .i64 0, .int .i64 0, .bool false]) (.agg #[.int .i64 0, .int .i64 0, .int .i64 0, .bool false])).run Tryz.prog W = .ok (.bool true) W := fun W => by kernel_rfl
  have HC := Lib.hid h
  clear h
  obtain ⟨W0, hW0⟩ : ∃ W, W = (w.alloc (.cells #[.string nm, .int .i64 at_, .int .i64 ph, .int .i64 mn, .int .i64 mx, .int .i64 st, .int .i64 fb, .int .i64 ow] 59)).alloc (.cells #[.int .i64 0, .int .i64 0, .int .i64 0, .bool false] 61) := ⟨_, rfl⟩
  obtain ⟨C, hC⟩ : ∃ S, S = w.heap.size := ⟨_, rfl⟩
  obtain ⟨S, hS⟩ : ∃ S, S = w.heap.size + 1 := ⟨_, rfl⟩
  have hb0 : Below w.heap.size w W0 := by rw [hW0]; exact ((Below.refl _ _).alloc (Nat.le_refl _) _).alloc (by simp) _
  obtain ⟨c0, c1, c2, c3, c4, c5, c6, c7⟩ : W0.cell? ⟨C, 0, none⟩ = some (.string nm) ∧ W0.cell? ⟨C, 1, none⟩ = some (.int .i64 at_) ∧ W0.cell? ⟨C, 2, none⟩ = some (.int .i64 ph) ∧ W0.cell? ⟨C, 3, none⟩ = some (.int .i64 mn) ∧ W0.cell? ⟨C, 4, none⟩ = some (.int .i64 mx) ∧ W0.cell? ⟨C, 5, none⟩ = some (.int .i64 st) ∧ W0.cell? ⟨C, 6, none⟩ = some (.int .i64 fb) ∧ W0.cell? ⟨C, 7, none⟩ = some (.int .i64 ow) := by rw [hW0, hC]; exact ⟨by go_simp, by go_simp, by go_simp, by go_simp, by go_simp, by go_simp, by go_simp, by go_simp⟩
  obtain ⟨s0, s1, s2, s3⟩ : W0.cell? ⟨S, 0, none⟩ = some (.int .i64 0) ∧ W0.cell? ⟨S, 1, none⟩ = some (.int .i64 0) ∧ W0.cell? ⟨S, 2, none⟩ = some (.int .i64 0) ∧ W0.cell? ⟨S, 3, none⟩ = some (.bool false) := by rw [hW0, hS]; exact ⟨by go_simp, by go_simp, by go_simp, by go_simp⟩
  have lC : C < W0.heap.size := zb c0
  have lS : S < W0.heap.size := zb s0
  have HB := Lib.hid hb0
  have HW0 := Lib.hid (And.intro hW0.symm (And.intro hC.symm hS.symm))
  clear hW0 hb0 hC hS
  go_enter Tryz.func26, Tryz.ntmps26
  go_upto_region 1 with (fail)
  try simp only [World.size_alloc]
  rw [HW0.out.1, HW0.out.2.2, HW0.out.2.1]
  clear HW0
  go_wp2_with fail
  refine (chVal_ok nm at_ ph mn mx st fb ow W0 HC.out).mono ?_
  rintro e W1 ⟨rfl, hb1⟩
  have HB := Lib.hid (below_then HB.out hb1)
  replace c4 := (hb1.cell (p := ⟨C, 4, none⟩) lC).trans c4
  replace s0 := (hb1.cell (p := ⟨S, 0, none⟩) lS).trans s0
  replace s1 := (hb1.cell (p := ⟨S, 1, none⟩) lS).trans s1
  replace s2 := (hb1.cell (p := ⟨S, 2, none⟩) lS).trans s2
  replace s3 := (hb1.cell (p := ⟨S, 3, none⟩) lS).trans s3
  replace lC : C < W1.heap.size := zb c4
  replace lS : S < W1.heap.size := zb s0
  clear hb1 c0 c1 c2 c3 c5 c6 c7
  go_upto_region 3 with (fail)
  refine region_z (S := fun w' => Below W1.heap.size W1 w') [] (by kernel_rfl) ((Below.refl _ _).drew) (fun hHeld => ?_)
  refine zt (i := 0) (v := .agg #[.int .i64 0, .int .i64 0, .int .i64 0, .bool false]) [] (fun w' hSw => ?_) hHeld ?_
  · have e0 := (hSw.cell (p := ⟨S, 0, none⟩) lS).trans s0
    have e1 := (hSw.cell (p := ⟨S, 1, none⟩) lS).trans s1
    have e2 := (hSw.cell (p := ⟨S, 2, none⟩) lS).trans s2
    have e3 := (hSw.cell (p := ⟨S, 3, none⟩) lS).trans s3
    have lS' : S < w'.heap.size := Nat.lt_of_lt_of_le lS hSw.size
    clear hHeld hSw
    go_simp
  simp only [Act.put, zl0, zl1, zl2, zl3, zl4, zl5]
  refine zo 1 (fun K' hK => ?_)
  go_simp
  refine (chStart_any _).mono ?_
  rintro e wk ⟨rfl, hbk⟩
  refine hK.out _ _ ?_ (fun hHeld' => ?_)
  · exact below_then hHeld hbk
  clear hK K' hHeld hbk
  have hHeld := hHeld'
  clear hHeld'
  try simp only [Act.put, zl0, zl1, zl2, zl3, zl4, zl5]
  refine zt (i := 2) (v := .bool true) [] (fun w' hSw => ?_) hHeld ?_
  · have hq := heq w'
    clear hHeld hSw
    go_simp
  simp only [Act.put, zl0, zl1, zl2, zl3, zl4, zl5]
  refine wpAnyZ_done (by kernel_rfl) ?_ _
  have HB := Lib.hid (below_then HB.out hHeld)
  have c4' := (hHeld.cell (p := ⟨C, 4, none⟩) lC).trans c4
  have s0' := (hHeld.cell (p := ⟨S, 0, none⟩) lS).trans s0
  have s1' := (hHeld.cell (p := ⟨S, 1, none⟩) lS).trans s1
  have s2' := (hHeld.cell (p := ⟨S, 2, none⟩) lS).trans s2
  have s3' := (hHeld.cell (p := ⟨S, 3, none⟩) lS).trans s3
  have lC' : C < wk.heap.size := zb c4'
  have lS' : S < wk.heap.size := zb s0'
  clear hHeld c4 s0 s1 s2 s3 lC lS heq
  go_wp2_with fail
  go_ret
  exact ⟨rfl, HB.out⟩
set_option maxRecDepth 100000 in
set_option maxHeartbeats 8000000 in
theorem chValid_on (nm : ByteArray) (at_ ph mn mx st fb ow : Int) (a l : Int) (w : World) (h : ChOk ph mn mx st fb) (hl : l ≠ 0) (hl0 : 0 ≤ l) (hl1 : l ≤ 1000000) (ha0 : 0 ≤ a) (ha1 : a ≤ mx) : Calls Tryz.prog 26 #[.agg #[.string nm, .int .i64 at_, .int .i64 ph, .int .i64 mn, .int .i64 mx, .int .i64 st, .int .i64 fb, .int .i64 ow], .agg #[.int .i64 4, .int .i64 a, .int .i64 l, .bool false]] w fun e w' => e = .returned (.bool true) ∧ Below w.heap.size w w' := by
  have heq : ∀ W : World, (binOp .eql 61 (.agg #[.int .i64 4, .int .i64 a, .int .i64 l, .bool false]) (.agg #[.int .i64 0, .int .i64 0, .int .i64 0, .bool false])).run Tryz.prog W = .ok (.bool false) W := fun W => eq_on _ _ W
  have HC := Lib.hid h
  clear h
  obtain ⟨W0, hW0⟩ : ∃ W, W = (w.alloc (.cells #[.string nm, .int .i64 at_, .int .i64 ph, .int .i64 mn, .int .i64 mx, .int .i64 st, .int .i64 fb, .int .i64 ow] 59)).alloc (.cells #[.int .i64 4, .int .i64 a, .int .i64 l, .bool false] 61) := ⟨_, rfl⟩
  obtain ⟨C, hC⟩ : ∃ S, S = w.heap.size := ⟨_, rfl⟩
  obtain ⟨S, hS⟩ : ∃ S, S = w.heap.size + 1 := ⟨_, rfl⟩
  have hb0 : Below w.heap.size w W0 := by rw [hW0]; exact ((Below.refl _ _).alloc (Nat.le_refl _) _).alloc (by simp) _
  obtain ⟨c0, c1, c2, c3, c4, c5, c6, c7⟩ : W0.cell? ⟨C, 0, none⟩ = some (.string nm) ∧ W0.cell? ⟨C, 1, none⟩ = some (.int .i64 at_) ∧ W0.cell? ⟨C, 2, none⟩ = some (.int .i64 ph) ∧ W0.cell? ⟨C, 3, none⟩ = some (.int .i64 mn) ∧ W0.cell? ⟨C, 4, none⟩ = some (.int .i64 mx) ∧ W0.cell? ⟨C, 5, none⟩ = some (.int .i64 st) ∧ W0.cell? ⟨C, 6, none⟩ = some (.int .i64 fb) ∧ W0.cell? ⟨C, 7, none⟩ = some (.int .i64 ow) := by rw [hW0, hC]; exact ⟨by go_simp, by go_simp, by go_simp, by go_simp, by go_simp, by go_simp, by go_simp, by go_simp⟩
  obtain ⟨s0, s1, s2, s3⟩ : W0.cell? ⟨S, 0, none⟩ = some (.int .i64 4) ∧ W0.cell? ⟨S, 1, none⟩ = some (.int .i64 a) ∧ W0.cell? ⟨S, 2, none⟩ = some (.int .i64 l) ∧ W0.cell? ⟨S, 3, none⟩ = some (.bool false) := by rw [hW0, hS]; exact ⟨by go_simp, by go_simp, by go_simp, by go_simp⟩
  have lC : C < W0.heap.size := zb c0
  have lS : S < W0.heap.size := zb s0
  have HB := Lib.hid hb0
  have HW0 := Lib.hid (And.intro hW0.symm (And.intro hC.symm hS.symm))
  clear hW0 hb0 hC hS
  go_enter Tryz.func26, Tryz.ntmps26
  go_upto_region 1 with (fail)
  try simp only [World.size_alloc]
  rw [HW0.out.1, HW0.out.2.2, HW0.out.2.1]
  clear HW0
  go_wp2_with fail
  refine (chVal_ok nm at_ ph mn mx st fb ow W0 HC.out).mono ?_
  rintro e W1 ⟨rfl, hb1⟩
  have HB := Lib.hid (below_then HB.out hb1)
  replace c4 := (hb1.cell (p := ⟨C, 4, none⟩) lC).trans c4
  replace s0 := (hb1.cell (p := ⟨S, 0, none⟩) lS).trans s0
  replace s1 := (hb1.cell (p := ⟨S, 1, none⟩) lS).trans s1
  replace s2 := (hb1.cell (p := ⟨S, 2, none⟩) lS).trans s2
  replace s3 := (hb1.cell (p := ⟨S, 3, none⟩) lS).trans s3
  replace lC : C < W1.heap.size := zb c4
  replace lS : S < W1.heap.size := zb s0
  clear hb1 c0 c1 c2 c3 c5 c6 c7
  go_upto_region 3 with (fail)
  refine region_z (S := fun w' => Below W1.heap.size W1 w') [] (by kernel_rfl) ((Below.refl _ _).drew) (fun hHeld => ?_)
  refine zt (i := 0) (v := .agg #[.int .i64 4, .int .i64 a, .int .i64 l, .bool false]) [] (fun w' hSw => ?_) hHeld ?_
  · have e0 := (hSw.cell (p := ⟨S, 0, none⟩) lS).trans s0
    have e1 := (hSw.cell (p := ⟨S, 1, none⟩) lS).trans s1
    have e2 := (hSw.cell (p := ⟨S, 2, none⟩) lS).trans s2
    have e3 := (hSw.cell (p := ⟨S, 3, none⟩) lS).trans s3
    have lS' : S < w'.heap.size := Nat.lt_of_lt_of_le lS hSw.size
    clear hHeld hSw
    go_simp
  simp only [Act.put, zl0, zl1, zl2, zl3, zl4, zl5]
  refine zo 1 (fun K' hK => ?_)
  go_simp
  refine (chStart_any _).mono ?_
  rintro e wk ⟨rfl, hbk⟩
  refine hK.out _ _ ?_ (fun hHeld' => ?_)
  · exact below_then hHeld hbk
  clear hK K' hHeld hbk
  have hHeld := hHeld'
  clear hHeld'
  try simp only [Act.put, zl0, zl1, zl2, zl3, zl4, zl5]
  refine zt (i := 2) (v := .bool false) [] (fun w' hSw => ?_) hHeld ?_
  · have hq := heq w'
    clear hHeld hSw
    go_simp
  simp only [Act.put, zl0, zl1, zl2, zl3, zl4, zl5]
  refine wpAnyZ_done (by kernel_rfl) ?_ _
  have HB := Lib.hid (below_then HB.out hHeld)
  have c4' := (hHeld.cell (p := ⟨C, 4, none⟩) lC).trans c4
  have s0' := (hHeld.cell (p := ⟨S, 0, none⟩) lS).trans s0
  have s1' := (hHeld.cell (p := ⟨S, 1, none⟩) lS).trans s1
  have s2' := (hHeld.cell (p := ⟨S, 2, none⟩) lS).trans s2
  have s3' := (hHeld.cell (p := ⟨S, 3, none⟩) lS).trans s3
  have lC' : C < wk.heap.size := zb c4'
  have lS' : S < wk.heap.size := zb s0'
  clear hHeld c4 s0 s1 s2 s3 lC lS heq
  go_wp2_with (go_at_call 27; refine (chIn_ok _ _ _ _ (by omega) (by omega)).mono ?_; rintro e w' ⟨rfl, hw⟩; have hw := hw.symm; subst hw)
  go_ret
  exact ⟨rfl, HB.out⟩
set_option maxRecDepth 100000 in
set_option maxHeartbeats 8000000 in
theorem chValid_off (nm : ByteArray) (at_ ph mn mx st fb ow : Int) (w : World) (h : ChOk ph mn mx st fb) (hmx : 0 ≤ mx) : Calls Tryz.prog 26 #[.agg #[.string nm, .int .i64 at_, .int .i64 ph, .int .i64 mn, .int .i64 mx, .int .i64 st, .int .i64 fb, .int .i64 ow], .agg #[.int .i64 4, .int .i64 0, .int .i64 0, .bool false]] w fun e w' => e = .returned (.bool true) ∧ Below w.heap.size w w' := by
  have heq : ∀ W : World, (binOp .eql 61 (.agg #[.int .i64 4, .int .i64 0, .int .i64 0, .bool false]) (.agg #[.int .i64 0, .int .i64 0, .int .i64 0, .bool false])).run Tryz.prog W = .ok (.bool false) W := fun W => eq_on _ _ W
  have HC := Lib.hid h
  clear h
  obtain ⟨W0, hW0⟩ : ∃ W, W = (w.alloc (.cells #[.string nm, .int .i64 at_, .int .i64 ph, .int .i64 mn, .int .i64 mx, .int .i64 st, .int .i64 fb, .int .i64 ow] 59)).alloc (.cells #[.int .i64 4, .int .i64 0, .int .i64 0, .bool false] 61) := ⟨_, rfl⟩
  obtain ⟨C, hC⟩ : ∃ S, S = w.heap.size := ⟨_, rfl⟩
  obtain ⟨S, hS⟩ : ∃ S, S = w.heap.size + 1 := ⟨_, rfl⟩
  have hb0 : Below w.heap.size w W0 := by rw [hW0]; exact ((Below.refl _ _).alloc (Nat.le_refl _) _).alloc (by simp) _
  obtain ⟨c0, c1, c2, c3, c4, c5, c6, c7⟩ : W0.cell? ⟨C, 0, none⟩ = some (.string nm) ∧ W0.cell? ⟨C, 1, none⟩ = some (.int .i64 at_) ∧ W0.cell? ⟨C, 2, none⟩ = some (.int .i64 ph) ∧ W0.cell? ⟨C, 3, none⟩ = some (.int .i64 mn) ∧ W0.cell? ⟨C, 4, none⟩ = some (.int .i64 mx) ∧ W0.cell? ⟨C, 5, none⟩ = some (.int .i64 st) ∧ W0.cell? ⟨C, 6, none⟩ = some (.int .i64 fb) ∧ W0.cell? ⟨C, 7, none⟩ = some (.int .i64 ow) := by rw [hW0, hC]; exact ⟨by go_simp, by go_simp, by go_simp, by go_simp, by go_simp, by go_simp, by go_simp, by go_simp⟩
  obtain ⟨s0, s1, s2, s3⟩ : W0.cell? ⟨S, 0, none⟩ = some (.int .i64 4) ∧ W0.cell? ⟨S, 1, none⟩ = some (.int .i64 0) ∧ W0.cell? ⟨S, 2, none⟩ = some (.int .i64 0) ∧ W0.cell? ⟨S, 3, none⟩ = some (.bool false) := by rw [hW0, hS]; exact ⟨by go_simp, by go_simp, by go_simp, by go_simp⟩
  have lC : C < W0.heap.size := zb c0
  have lS : S < W0.heap.size := zb s0
  have HB := Lib.hid hb0
  have HW0 := Lib.hid (And.intro hW0.symm (And.intro hC.symm hS.symm))
  clear hW0 hb0 hC hS
  go_enter Tryz.func26, Tryz.ntmps26
  go_upto_region 1 with (fail)
  try simp only [World.size_alloc]
  rw [HW0.out.1, HW0.out.2.2, HW0.out.2.1]
  clear HW0
  go_wp2_with fail
  refine (chVal_ok nm at_ ph mn mx st fb ow W0 HC.out).mono ?_
  rintro e W1 ⟨rfl, hb1⟩
  have HB := Lib.hid (below_then HB.out hb1)
  replace c4 := (hb1.cell (p := ⟨C, 4, none⟩) lC).trans c4
  replace s0 := (hb1.cell (p := ⟨S, 0, none⟩) lS).trans s0
  replace s1 := (hb1.cell (p := ⟨S, 1, none⟩) lS).trans s1
  replace s2 := (hb1.cell (p := ⟨S, 2, none⟩) lS).trans s2
  replace s3 := (hb1.cell (p := ⟨S, 3, none⟩) lS).trans s3
  replace lC : C < W1.heap.size := zb c4
  replace lS : S < W1.heap.size := zb s0
  clear hb1 c0 c1 c2 c3 c5 c6 c7
  go_upto_region 3 with (fail)
  refine region_z (S := fun w' => Below W1.heap.size W1 w') [] (by kernel_rfl) ((Below.refl _ _).drew) (fun hHeld => ?_)
  refine zt (i := 0) (v := .agg #[.int .i64 4, .int .i64 0, .int .i64 0, .bool false]) [] (fun w' hSw => ?_) hHeld ?_
  · have e0 := (hSw.cell (p := ⟨S, 0, none⟩) lS).trans s0
    have e1 := (hSw.cell (p := ⟨S, 1, none⟩) lS).trans s1
    have e2 := (hSw.cell (p := ⟨S, 2, none⟩) lS).trans s2
    have e3 := (hSw.cell (p := ⟨S, 3, none⟩) lS).trans s3
    have lS' : S < w'.heap.size := Nat.lt_of_lt_of_le lS hSw.size
    clear hHeld hSw
    go_simp
  simp only [Act.put, zl0, zl1, zl2, zl3, zl4, zl5]
  refine zo 1 (fun K' hK => ?_)
  go_simp
  refine (chStart_any _).mono ?_
  rintro e wk ⟨rfl, hbk⟩
  refine hK.out _ _ ?_ (fun hHeld' => ?_)
  · exact below_then hHeld hbk
  clear hK K' hHeld hbk
  have hHeld := hHeld'
  clear hHeld'
  try simp only [Act.put, zl0, zl1, zl2, zl3, zl4, zl5]
  refine zt (i := 2) (v := .bool false) [] (fun w' hSw => ?_) hHeld ?_
  · have hq := heq w'
    clear hHeld hSw
    go_simp
  simp only [Act.put, zl0, zl1, zl2, zl3, zl4, zl5]
  refine wpAnyZ_done (by kernel_rfl) ?_ _
  have HB := Lib.hid (below_then HB.out hHeld)
  have c4' := (hHeld.cell (p := ⟨C, 4, none⟩) lC).trans c4
  have s0' := (hHeld.cell (p := ⟨S, 0, none⟩) lS).trans s0
  have s1' := (hHeld.cell (p := ⟨S, 1, none⟩) lS).trans s1
  have s2' := (hHeld.cell (p := ⟨S, 2, none⟩) lS).trans s2
  have s3' := (hHeld.cell (p := ⟨S, 3, none⟩) lS).trans s3
  have lC' : C < wk.heap.size := zb c4'
  have lS' : S < wk.heap.size := zb s0'
  clear hHeld c4 s0 s1 s2 s3 lC lS heq
  go_wp2_with (go_at_call 27; refine (chIn_ok _ _ _ _ (by omega) (by omega)).mono ?_; rintro e w' ⟨rfl, hw⟩; have hw := hw.symm; subst hw)
  go_ret
  exact ⟨rfl, HB.out⟩
end Go.Proofs.YtkbbapefgifagaaGreatDoor
