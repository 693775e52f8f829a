/-
Several texts in one: SiteC, SiteD, SiteE.
-/
import Derived.Test.YtkbbapefgifagaaGreatDoorGLSiteR
import Derived.Test.YtkbbapefgifagaaGreatDoorGLPar
/-
site.validCharger, walked.
-/
namespace Go.Proofs.YtkbbapefgifagaaGreatDoor
open Go.RowKit
set_option linter.unusedVariables false
set_option linter.unusedSimpArgs false
def chgB (n1 n2 : Nat) (c : GChg) : Bool := inside c.place 0 ((n1 : Int) - 1) && (inside c.own 0 ((n2 : Int) - 1) && (inside c.ph 1 7 && (inside c.mn 1 80 && (inside c.mx 1 80 && (inside c.step 1 80 && (inside c.fb 0 80 && ampsB c))))))
theorem chgB_ok (n1 n2 : Nat) (c : GChg) : chgB n1 n2 c = okChg n1 n2 c := by
  rw [Bool.eq_iff_iff]
  unfold chgB okChg ampsB
  simp only [Bool.and_eq_true, inside_iff, decide_eq_true_eq, Bool.or_eq_true]
  omega
set_option maxRecDepth 100000 in
set_option maxHeartbeats 8000000 in
theorem stChg_any (a1 a2 a3 a4 a5 : Option Addr) (n1 c1 n2 c2 n3 c3 n4 c4 n5 c5 : Nat) (c : GChg) (w : World) (h1 : n1 ≤ 16) (h2 : n2 ≤ 8) :
    Calls Tryz.prog 113 #[.agg #[.slice a1 n1 c1, .slice a2 n2 c2, .slice a3 n3 c3, .slice a4 n4 c4, .slice a5 n5 c5], .agg #[.string c.name, .int .i64 c.place, .int .i64 c.ph, .int .i64 c.mn, .int .i64 c.mx, .int .i64 c.step, .int .i64 c.fb, .int .i64 c.own]] w fun e w' => e = .returned (.bool (okChg n1 n2 c)) ∧ Below w.heap.size w w' := by
  have HF4 := Lib.hid (chgB_ok n1 n2 c).symm
  unfold chgB at HF4
  obtain ⟨x0, hx0⟩ : ∃ z, inside c.place 0 ((n1 : Int) - 1) = z := ⟨_, rfl⟩
  rw [hx0] at HF4
  have HX0 := Lib.hid hx0
  clear hx0
  obtain ⟨x1, hx1⟩ : ∃ z, inside c.own 0 ((n2 : Int) - 1) = z := ⟨_, rfl⟩
  rw [hx1] at HF4
  have HX1 := Lib.hid hx1
  clear hx1
  obtain ⟨x2, hx2⟩ : ∃ z, inside c.ph 1 7 = z := ⟨_, rfl⟩
  rw [hx2] at HF4
  have HX2 := Lib.hid hx2
  clear hx2
  obtain ⟨x3, hx3⟩ : ∃ z, inside c.mn 1 80 = z := ⟨_, rfl⟩
  rw [hx3] at HF4
  have HX3 := Lib.hid hx3
  clear hx3
  obtain ⟨x4, hx4⟩ : ∃ z, inside c.mx 1 80 = z := ⟨_, rfl⟩
  rw [hx4] at HF4
  have HX4 := Lib.hid hx4
  clear hx4
  obtain ⟨x5, hx5⟩ : ∃ z, inside c.step 1 80 = z := ⟨_, rfl⟩
  rw [hx5] at HF4
  have HX5 := Lib.hid hx5
  clear hx5
  obtain ⟨x6, hx6⟩ : ∃ z, inside c.fb 0 80 = z := ⟨_, rfl⟩
  rw [hx6] at HF4
  have HX6 := Lib.hid hx6
  clear hx6
  obtain ⟨xa, hxa⟩ : ∃ z, ampsB c = z := ⟨_, rfl⟩
  rw [hxa] at HF4
  have HXA := Lib.hid hxa
  clear hxa
  go_enter Tryz.func113, Tryz.ntmps113
  go_upto_region 2 with (fail)
  refine wp_world (fun X => (X.cell? ⟨w.heap.size, 0, none⟩ = some (.slice a1 n1 c1) ∧ X.cell? ⟨w.heap.size, 1, none⟩ = some (.slice a2 n2 c2) ∧ X.cell? ⟨w.heap.size + 1, 0, none⟩ = some (.string c.name) ∧ X.cell? ⟨w.heap.size + 1, 1, none⟩ = some (.int .i64 c.place) ∧ X.cell? ⟨w.heap.size + 1, 2, none⟩ = some (.int .i64 c.ph) ∧ X.cell? ⟨w.heap.size + 1, 3, none⟩ = some (.int .i64 c.mn) ∧ X.cell? ⟨w.heap.size + 1, 4, none⟩ = some (.int .i64 c.mx) ∧ X.cell? ⟨w.heap.size + 1, 5, none⟩ = some (.int .i64 c.step) ∧ X.cell? ⟨w.heap.size + 1, 6, none⟩ = some (.int .i64 c.fb) ∧ X.cell? ⟨w.heap.size + 1, 7, none⟩ = some (.int .i64 c.own) ∧ X.cell? ⟨w.heap.size + 1 + 1, 0, none⟩ = some (.int .i64 1) ∧ X.cell? ⟨w.heap.size + 1 + 1, 1, none⟩ = some (.int .i64 80)) ∧ Below w.heap.size w X ∧ w.heap.size + 1 + 1 < X.heap.size) ⟨⟨by go_simp, by go_simp, by go_simp, by go_simp, by go_simp, by go_simp, by go_simp, by go_simp, by go_simp, by go_simp, by go_simp, by go_simp⟩, (((Below.refl _ _).alloc (Nat.le_refl _) _).alloc (by simp) _).alloc (by simp; omega) _, by simp⟩ ?_
  rintro X ⟨⟨s0, s1, h0, h1, h2, h3, h4, h5, h6, h7, p0, p1⟩, hbX, lP⟩
  have HBX0 := Lib.hid hbX
  have lS : w.heap.size < X.heap.size := by omega
  have lC : w.heap.size + 1 < X.heap.size := by omega
  clear hbX
  go_wp2_with fail
  refine (stHolds_any 0 ((n1 : Int) - 1) c.place _).mono ?_
  rw [HX0.out]
  rintro e w1 ⟨rfl, hww1⟩
  have hbw1 : Below X.heap.size X w1 := by rw [hww1]; exact (Below.refl _ _).alloc (Nat.le_refl _) _
  have HBX1 := Lib.hid (below_then HBX0.out hbw1)
  have s0 := (hbw1.cell (p := ⟨w.heap.size, 0, none⟩) lS).trans s0
  have s1 := (hbw1.cell (p := ⟨w.heap.size, 1, none⟩) lS).trans s1
  have h0 := (hbw1.cell (p := ⟨w.heap.size + 1, 0, none⟩) lC).trans h0
  have h1 := (hbw1.cell (p := ⟨w.heap.size + 1, 1, none⟩) lC).trans h1
  have h2 := (hbw1.cell (p := ⟨w.heap.size + 1, 2, none⟩) lC).trans h2
  have h3 := (hbw1.cell (p := ⟨w.heap.size + 1, 3, none⟩) lC).trans h3
  have h4 := (hbw1.cell (p := ⟨w.heap.size + 1, 4, none⟩) lC).trans h4
  have h5 := (hbw1.cell (p := ⟨w.heap.size + 1, 5, none⟩) lC).trans h5
  have h6 := (hbw1.cell (p := ⟨w.heap.size + 1, 6, none⟩) lC).trans h6
  have h7 := (hbw1.cell (p := ⟨w.heap.size + 1, 7, none⟩) lC).trans h7
  have p0 := (hbw1.cell (p := ⟨w.heap.size + 1 + 1, 0, none⟩) lP).trans p0
  have p1 := (hbw1.cell (p := ⟨w.heap.size + 1 + 1, 1, none⟩) lP).trans p1
  have lS := Nat.lt_of_lt_of_le lS hbw1.size
  have lC := Nat.lt_of_lt_of_le lC hbw1.size
  have lP := Nat.lt_of_lt_of_le lP hbw1.size
  clear hww1 hbw1
  cases x0
  · go_wp2_with fail
    go_ret
    exact ⟨ret_bool (by rw [HF4.out]; simp), HBX1.out⟩
  go_wp2_with fail
  refine (stHolds_any 0 ((n2 : Int) - 1) c.own _).mono ?_
  rw [HX1.out]
  rintro e w2 ⟨rfl, hww2⟩
  have hbw2 : Below w1.heap.size w1 w2 := by rw [hww2]; exact (Below.refl _ _).alloc (Nat.le_refl _) _
  have HBX2 := Lib.hid (below_then HBX1.out hbw2)
  have s0 := (hbw2.cell (p := ⟨w.heap.size, 0, none⟩) lS).trans s0
  have s1 := (hbw2.cell (p := ⟨w.heap.size, 1, none⟩) lS).trans s1
  have h0 := (hbw2.cell (p := ⟨w.heap.size + 1, 0, none⟩) lC).trans h0
  have h1 := (hbw2.cell (p := ⟨w.heap.size + 1, 1, none⟩) lC).trans h1
  have h2 := (hbw2.cell (p := ⟨w.heap.size + 1, 2, none⟩) lC).trans h2
  have h3 := (hbw2.cell (p := ⟨w.heap.size + 1, 3, none⟩) lC).trans h3
  have h4 := (hbw2.cell (p := ⟨w.heap.size + 1, 4, none⟩) lC).trans h4
  have h5 := (hbw2.cell (p := ⟨w.heap.size + 1, 5, none⟩) lC).trans h5
  have h6 := (hbw2.cell (p := ⟨w.heap.size + 1, 6, none⟩) lC).trans h6
  have h7 := (hbw2.cell (p := ⟨w.heap.size + 1, 7, none⟩) lC).trans h7
  have p0 := (hbw2.cell (p := ⟨w.heap.size + 1 + 1, 0, none⟩) lP).trans p0
  have p1 := (hbw2.cell (p := ⟨w.heap.size + 1 + 1, 1, none⟩) lP).trans p1
  have lS := Nat.lt_of_lt_of_le lS hbw2.size
  have lC := Nat.lt_of_lt_of_le lC hbw2.size
  have lP := Nat.lt_of_lt_of_le lP hbw2.size
  clear hww2 hbw2
  cases x1
  · go_wp2_with fail
    go_ret
    exact ⟨ret_bool (by rw [HF4.out]; simp), HBX2.out⟩
  go_wp2_with fail
  refine (stHolds_any 1 7 c.ph _).mono ?_
  rw [HX2.out]
  rintro e w3 ⟨rfl, hww3⟩
  have hbw3 : Below w2.heap.size w2 w3 := by rw [hww3]; exact (Below.refl _ _).alloc (Nat.le_refl _) _
  have HBX3 := Lib.hid (below_then HBX2.out hbw3)
  have s0 := (hbw3.cell (p := ⟨w.heap.size, 0, none⟩) lS).trans s0
  have s1 := (hbw3.cell (p := ⟨w.heap.size, 1, none⟩) lS).trans s1
  have h0 := (hbw3.cell (p := ⟨w.heap.size + 1, 0, none⟩) lC).trans h0
  have h1 := (hbw3.cell (p := ⟨w.heap.size + 1, 1, none⟩) lC).trans h1
  have h2 := (hbw3.cell (p := ⟨w.heap.size + 1, 2, none⟩) lC).trans h2
  have h3 := (hbw3.cell (p := ⟨w.heap.size + 1, 3, none⟩) lC).trans h3
  have h4 := (hbw3.cell (p := ⟨w.heap.size + 1, 4, none⟩) lC).trans h4
  have h5 := (hbw3.cell (p := ⟨w.heap.size + 1, 5, none⟩) lC).trans h5
  have h6 := (hbw3.cell (p := ⟨w.heap.size + 1, 6, none⟩) lC).trans h6
  have h7 := (hbw3.cell (p := ⟨w.heap.size + 1, 7, none⟩) lC).trans h7
  have p0 := (hbw3.cell (p := ⟨w.heap.size + 1 + 1, 0, none⟩) lP).trans p0
  have p1 := (hbw3.cell (p := ⟨w.heap.size + 1 + 1, 1, none⟩) lP).trans p1
  have lS := Nat.lt_of_lt_of_le lS hbw3.size
  have lC := Nat.lt_of_lt_of_le lC hbw3.size
  have lP := Nat.lt_of_lt_of_le lP hbw3.size
  clear hww3 hbw3
  cases x2
  · go_wp2_with fail
    go_ret
    exact ⟨ret_bool (by rw [HF4.out]; simp), HBX3.out⟩
  go_wp2_with fail
  refine (stHolds_any 1 80 c.mn _).mono ?_
  rw [HX3.out]
  rintro e w4 ⟨rfl, hww4⟩
  have hbw4 : Below w3.heap.size w3 w4 := by rw [hww4]; exact (Below.refl _ _).alloc (Nat.le_refl _) _
  have HBX4 := Lib.hid (below_then HBX3.out hbw4)
  have s0 := (hbw4.cell (p := ⟨w.heap.size, 0, none⟩) lS).trans s0
  have s1 := (hbw4.cell (p := ⟨w.heap.size, 1, none⟩) lS).trans s1
  have h0 := (hbw4.cell (p := ⟨w.heap.size + 1, 0, none⟩) lC).trans h0
  have h1 := (hbw4.cell (p := ⟨w.heap.size + 1, 1, none⟩) lC).trans h1
  have h2 := (hbw4.cell (p := ⟨w.heap.size + 1, 2, none⟩) lC).trans h2
  have h3 := (hbw4.cell (p := ⟨w.heap.size + 1, 3, none⟩) lC).trans h3
  have h4 := (hbw4.cell (p := ⟨w.heap.size + 1, 4, none⟩) lC).trans h4
  have h5 := (hbw4.cell (p := ⟨w.heap.size + 1, 5, none⟩) lC).trans h5
  have h6 := (hbw4.cell (p := ⟨w.heap.size + 1, 6, none⟩) lC).trans h6
  have h7 := (hbw4.cell (p := ⟨w.heap.size + 1, 7, none⟩) lC).trans h7
  have p0 := (hbw4.cell (p := ⟨w.heap.size + 1 + 1, 0, none⟩) lP).trans p0
  have p1 := (hbw4.cell (p := ⟨w.heap.size + 1 + 1, 1, none⟩) lP).trans p1
  have lS := Nat.lt_of_lt_of_le lS hbw4.size
  have lC := Nat.lt_of_lt_of_le lC hbw4.size
  have lP := Nat.lt_of_lt_of_le lP hbw4.size
  clear hww4 hbw4
  cases x3
  · go_wp2_with fail
    go_ret
    exact ⟨ret_bool (by rw [HF4.out]; simp), HBX4.out⟩
  go_wp2_with fail
  refine (stHolds_any 1 80 c.mx _).mono ?_
  rw [HX4.out]
  rintro e w5 ⟨rfl, hww5⟩
  have hbw5 : Below w4.heap.size w4 w5 := by rw [hww5]; exact (Below.refl _ _).alloc (Nat.le_refl _) _
  have HBX5 := Lib.hid (below_then HBX4.out hbw5)
  have s0 := (hbw5.cell (p := ⟨w.heap.size, 0, none⟩) lS).trans s0
  have s1 := (hbw5.cell (p := ⟨w.heap.size, 1, none⟩) lS).trans s1
  have h0 := (hbw5.cell (p := ⟨w.heap.size + 1, 0, none⟩) lC).trans h0
  have h1 := (hbw5.cell (p := ⟨w.heap.size + 1, 1, none⟩) lC).trans h1
  have h2 := (hbw5.cell (p := ⟨w.heap.size + 1, 2, none⟩) lC).trans h2
  have h3 := (hbw5.cell (p := ⟨w.heap.size + 1, 3, none⟩) lC).trans h3
  have h4 := (hbw5.cell (p := ⟨w.heap.size + 1, 4, none⟩) lC).trans h4
  have h5 := (hbw5.cell (p := ⟨w.heap.size + 1, 5, none⟩) lC).trans h5
  have h6 := (hbw5.cell (p := ⟨w.heap.size + 1, 6, none⟩) lC).trans h6
  have h7 := (hbw5.cell (p := ⟨w.heap.size + 1, 7, none⟩) lC).trans h7
  have p0 := (hbw5.cell (p := ⟨w.heap.size + 1 + 1, 0, none⟩) lP).trans p0
  have p1 := (hbw5.cell (p := ⟨w.heap.size + 1 + 1, 1, none⟩) lP).trans p1
  have lS := Nat.lt_of_lt_of_le lS hbw5.size
  have lC := Nat.lt_of_lt_of_le lC hbw5.size
  have lP := Nat.lt_of_lt_of_le lP hbw5.size
  clear hww5 hbw5
  cases x4
  · go_wp2_with fail
    go_ret
    exact ⟨ret_bool (by rw [HF4.out]; simp), HBX5.out⟩
  go_wp2_with fail
  refine (stHolds_any 1 80 c.step _).mono ?_
  rw [HX5.out]
  rintro e w6 ⟨rfl, hww6⟩
  have hbw6 : Below w5.heap.size w5 w6 := by rw [hww6]; exact (Below.refl _ _).alloc (Nat.le_refl _) _
  have HBX6 := Lib.hid (below_then HBX5.out hbw6)
  have s0 := (hbw6.cell (p := ⟨w.heap.size, 0, none⟩) lS).trans s0
  have s1 := (hbw6.cell (p := ⟨w.heap.size, 1, none⟩) lS).trans s1
  have h0 := (hbw6.cell (p := ⟨w.heap.size + 1, 0, none⟩) lC).trans h0
  have h1 := (hbw6.cell (p := ⟨w.heap.size + 1, 1, none⟩) lC).trans h1
  have h2 := (hbw6.cell (p := ⟨w.heap.size + 1, 2, none⟩) lC).trans h2
  have h3 := (hbw6.cell (p := ⟨w.heap.size + 1, 3, none⟩) lC).trans h3
  have h4 := (hbw6.cell (p := ⟨w.heap.size + 1, 4, none⟩) lC).trans h4
  have h5 := (hbw6.cell (p := ⟨w.heap.size + 1, 5, none⟩) lC).trans h5
  have h6 := (hbw6.cell (p := ⟨w.heap.size + 1, 6, none⟩) lC).trans h6
  have h7 := (hbw6.cell (p := ⟨w.heap.size + 1, 7, none⟩) lC).trans h7
  have p0 := (hbw6.cell (p := ⟨w.heap.size + 1 + 1, 0, none⟩) lP).trans p0
  have p1 := (hbw6.cell (p := ⟨w.heap.size + 1 + 1, 1, none⟩) lP).trans p1
  have lS := Nat.lt_of_lt_of_le lS hbw6.size
  have lC := Nat.lt_of_lt_of_le lC hbw6.size
  have lP := Nat.lt_of_lt_of_le lP hbw6.size
  clear hww6 hbw6
  cases x5
  · go_wp2_with fail
    go_ret
    exact ⟨ret_bool (by rw [HF4.out]; simp), HBX6.out⟩
  go_wp2_with fail
  refine (stHolds_any 0 80 c.fb _).mono ?_
  rw [HX6.out]
  rintro e w7 ⟨rfl, hww7⟩
  have hbw7 : Below w6.heap.size w6 w7 := by rw [hww7]; exact (Below.refl _ _).alloc (Nat.le_refl _) _
  have HBX7 := Lib.hid (below_then HBX6.out hbw7)
  have s0 := (hbw7.cell (p := ⟨w.heap.size, 0, none⟩) lS).trans s0
  have s1 := (hbw7.cell (p := ⟨w.heap.size, 1, none⟩) lS).trans s1
  have h0 := (hbw7.cell (p := ⟨w.heap.size + 1, 0, none⟩) lC).trans h0
  have h1 := (hbw7.cell (p := ⟨w.heap.size + 1, 1, none⟩) lC).trans h1
  have h2 := (hbw7.cell (p := ⟨w.heap.size + 1, 2, none⟩) lC).trans h2
  have h3 := (hbw7.cell (p := ⟨w.heap.size + 1, 3, none⟩) lC).trans h3
  have h4 := (hbw7.cell (p := ⟨w.heap.size + 1, 4, none⟩) lC).trans h4
  have h5 := (hbw7.cell (p := ⟨w.heap.size + 1, 5, none⟩) lC).trans h5
  have h6 := (hbw7.cell (p := ⟨w.heap.size + 1, 6, none⟩) lC).trans h6
  have h7 := (hbw7.cell (p := ⟨w.heap.size + 1, 7, none⟩) lC).trans h7
  have p0 := (hbw7.cell (p := ⟨w.heap.size + 1 + 1, 0, none⟩) lP).trans p0
  have p1 := (hbw7.cell (p := ⟨w.heap.size + 1 + 1, 1, none⟩) lP).trans p1
  have lS := Nat.lt_of_lt_of_le lS hbw7.size
  have lC := Nat.lt_of_lt_of_le lC hbw7.size
  have lP := Nat.lt_of_lt_of_le lP hbw7.size
  clear hww7 hbw7
  cases x6
  · go_wp2_with fail
    go_ret
    exact ⟨ret_bool (by rw [HF4.out]; simp), HBX7.out⟩
  go_wp2_with fail
  refine (stAmps_any c _).mono ?_
  rw [HXA.out]
  rintro e w8 ⟨rfl, hw8⟩
  have HB8 : Hid (Below w.heap.size w w8) := Lib.hid (by rw [hw8]; exact HBX7.out.alloc HBX7.out.size _)
  clear hw8
  go_wp2_with fail
  go_ret
  exact ⟨ret_bool (by rw [HF4.out]; simp), HB8.out⟩
end Go.Proofs.YtkbbapefgifagaaGreatDoor
/-
site.validParts, walked.
-/
namespace Go.Proofs.YtkbbapefgifagaaGreatDoor
open Go.RowKit Go.Maps
set_option linter.unusedVariables false
set_option linter.unusedSimpArgs false
theorem okConB_ok (k : Nat) (c : GCon) : okConB (k : Int) c = okCon k c := by
  unfold okConB okCon okUp
  congr 1
  congr 1
  congr 1
  rw [Bool.eq_iff_iff]
  simp only [decide_eq_true_eq]
  omega
structure PartsP (s : GSite) : Prop where
  con : ∀ i c, s.cons[i]? = some c → okCon i c = true
  ctr : ∀ c, c ∈ s.ctrs → okCtr s.owns.length c = true
  cards : (s.ctrs.map (·.card)).Nodup
  chg : ∀ c, c ∈ s.chgs → okChg s.cons.length s.owns.length c = true
  bay : ∀ b, b ∈ s.bays → okBay s.chgs.length b = true
noncomputable def partsB (s : GSite) : Bool := @decide (PartsP s) (Classical.propDecidable _)
theorem partsB_iff {s : GSite} : partsB s = true ↔ PartsP s := @decide_eq_true_iff _ (Classical.propDecidable _)
theorem partsB_no {s : GSite} (h : ¬ PartsP s) : false = partsB s := by
  cases e : partsB s
  · rfl
  · exact absurd (partsB_iff.1 e) h
theorem intK : Keyed Tryz.prog 3 := int_keyed Tryz.underlying3
theorem zeroB (w : World) : (zeroValue 4).run Tryz.prog w = .ok (.bool false) w := by kernel_rfl
def cardL (l : List GCtr) : List Lit := l.map (fun c => .int .i64 c.card)
theorem mem_cardL {l : List GCtr} {x : Int} : (Lit.int .i64 x) ∈ cardL l ↔ x ∈ l.map (·.card) := by
  unfold cardL
  simp only [List.mem_map]
  constructor
  · rintro ⟨c, h1, h2⟩; exact ⟨c, h1, by injection h2⟩
  · rintro ⟨c, h1, h2⟩; exact ⟨c, h1, by rw [h2]⟩
set_option maxRecDepth 100000 in
set_option maxHeartbeats 16000000 in
theorem stParts_any (a1 a2 a3 a4 a5 : Option Addr) (n1 c1 n2 c2 n3 c3 n4 c4 n5 c5 : Nat) (s : GSite) (w : World) (HS : Hid (RdSite w a1 a2 a3 a4 a5 n1 n2 n3 n4 n5 s)) (h1 : n1 ≤ 16) (h2 : n2 ≤ 8) (h3 : n3 ≤ 32) (h4 : n4 ≤ 16) (h5 : n5 ≤ 24) :
    Calls Tryz.prog 100 #[.agg #[.slice a1 n1 c1, .slice a2 n2 c2, .slice a3 n3 c3, .slice a4 n4 c4, .slice a5 n5 c5]] w fun e w' => e = .returned (.bool (partsB s)) ∧ Below w.heap.size w w' := by
  obtain ⟨W0, hW0⟩ : ∃ W0, W0 = w.alloc (.cells #[.slice a1 n1 c1, .slice a2 n2 c2, .slice a3 n3 c3, .slice a4 n4 c4, .slice a5 n5 c5] 39) := ⟨_, rfl⟩
  have b0 : Below w.heap.size w W0 := by rw [hW0]; exact (Below.refl _ w).alloc (Nat.le_refl _) _
  have hs0 : w.heap.size < W0.heap.size := by rw [hW0]; simp
  have q0 : W0.cell? ⟨w.heap.size, 0, none⟩ = some (.slice a1 n1 c1) := by rw [hW0]; go_simp
  have q1 : W0.cell? ⟨w.heap.size, 1, none⟩ = some (.slice a2 n2 c2) := by rw [hW0]; go_simp
  have q2 : W0.cell? ⟨w.heap.size, 2, none⟩ = some (.slice a3 n3 c3) := by rw [hW0]; go_simp
  have q3 : W0.cell? ⟨w.heap.size, 3, none⟩ = some (.slice a4 n4 c4) := by rw [hW0]; go_simp
  have q4 : W0.cell? ⟨w.heap.size, 4, none⟩ = some (.slice a5 n5 c5) := by rw [hW0]; go_simp
  have HW0 := Lib.hid hW0.symm
  have HB0 := Lib.hid b0
  have HSW := Lib.hid (HS.out.keep b0)
  have HL : Hid (s.cons.length = n1 ∧ s.owns.length = n2 ∧ s.ctrs.length = n3 ∧ s.chgs.length = n4 ∧ s.bays.length = n5) := Lib.hid ⟨HS.out.l1, HS.out.l2, HS.out.l3, HS.out.l4, HS.out.l5⟩
  clear hW0 b0
  have hmm := @run_makeMap Tryz.prog
  go_enter Tryz.func100, Tryz.ntmps100
  go_upto_region 1 with (fail)
  rw [HW0.out]
  go_wp2_with fail
  go_loopg [3, 4, 15] n1 (fun g1 v3 v4 v15 wr => ∃ k : Nat, v15 = .int .i64 k ∧ k ≤ n1 ∧ n1 - k ≤ g1 ∧ Hid (∀ i c, i < k → s.cons[i]? = some c → okCon i c = true) ∧ Hid (Below W0.heap.size W0 wr))
  case atStart => exact ⟨0, by go_num, by omega, by omega, Lib.hid (fun i c hi => by omega), Lib.hid (Below.refl _ _)⟩
  case round =>
    obtain ⟨k, rfl, hk, hg1, HA, HB⟩ := hrel
    by_cases hlt : k < n1
    · have hltz : (k : Int) < (n1 : Int) := by omega
      obtain ⟨b, off, c, hbe, hbl, hc, k0, k1, k2, k3, k4, k5, k6, k7, k8, k9, k10⟩ := rdCon_at (HSW.out.r1.keep HB.out) (k := k) (by rw [HSW.out.l1]; exact hlt)
      have al : Below wr.heap.size wr (wr.alloc (.cells #[.string c.name, .int .i64 c.up, .int .i64 c.limit, .int .i64 c.neutral, .int .i64 c.rated, .int .i64 c.heat, .int .i64 c.amb, .int .i64 c.most, .int .i64 c.gain, .int .i64 c.loss, .int .i64 c.den] 72)) := (Below.refl _ _).alloc (Nat.le_refl _) _
      have HBA := Lib.hid (HB.out.trans (al.mono HB.out.size))
      have hCall := Lib.hid (stCon_any c (k : Int) (wr.alloc (.cells #[.string c.name, .int .i64 c.up, .int .i64 c.limit, .int .i64 c.neutral, .int .i64 c.rated, .int .i64 c.heat, .int .i64 c.amb, .int .i64 c.most, .int .i64 c.gain, .int .i64 c.loss, .int .i64 c.den] 72)))
      have HC := Lib.hid hc
      subst hbe
      clear hc al HB
      go_wp2_with fail
      refine hCall.out.mono ?_
      rw [okConB_ok]
      rintro e w5 ⟨rfl, hb5⟩
      have HB5 := Lib.hid (HBA.out.trans (hb5.mono HBA.out.size))
      clear hb5
      obtain ⟨z, hz⟩ : ∃ z, okCon k c = z := ⟨_, rfl⟩
      rw [hz]
      have HZ := Lib.hid hz
      clear hz
      cases z
      · have HF : Hid (false = partsB s) := Lib.hid (partsB_no (fun h => by have := h.con k c HC.out; rw [HZ.out] at this; cases this))
        have HE := Lib.hid (below_then HB0.out HB5.out)
        go_wp2_with fail
        go_ret
        exact ⟨ret_bool HF.out, HE.out⟩
      · have HA2 : Hid (∀ i c, i < k + 1 → s.cons[i]? = some c → okCon i c = true) := Lib.hid (fun i c' hi hc' => by
          by_cases e : i = k
          · subst e
            rw [HC.out] at hc'
            injection hc' with hc'
            rw [← hc']; exact HZ.out
          · exact HA.out i c' (by omega) hc')
        clear HA
        go_wp2_with fail
        go_roundg (n1 - (k + 1))
        case measure => omega
        case rel => exact ⟨k + 1, by go_num, by omega, by omega, HA2, HB5⟩
    · have hltz : ¬ (k : Int) < (n1 : Int) := by omega
      have HCON : Hid (∀ i c, s.cons[i]? = some c → okCon i c = true) := Lib.hid (fun i c hc => HA.out i c (by have := (List.getElem?_eq_some_iff.1 hc).1; rw [HL.out.1] at this; omega) hc)
      have p2 := (HB.out.cell (p := ⟨w.heap.size, 2, none⟩) hs0).trans q2
      have HBm := Lib.hid (HB.out.alloc HB.out.size (.map #[] 0))
      have HM0 : Hid (SetM Tryz.prog 3 4 (wr.alloc (.map #[] 0)) wr.heap.size 0 (cardL (s.ctrs.take 0))) := Lib.hid (SetM.made _)
      have hBl := HB.out.size
      have hsr : w.heap.size < wr.heap.size := by omega
      obtain ⟨B, hB⟩ : ∃ B, B = wr.heap.size := ⟨_, rfl⟩
      have HBB := Lib.hid hB
      rw [← hB] at HM0 hBl
      clear HA HB hk hg1 hlt hB
      go_wp2_with fail
      rw [← HBB.out]
      clear HBB p2 hsr
      go_loopg [7, 29] n3 (fun g1 v7 v29 wr => ∃ k : Nat, v29 = .int .i64 k ∧ k ≤ n3 ∧ n3 - k ≤ g1 ∧ Hid (SetM Tryz.prog 3 4 wr B k (cardL (s.ctrs.take k))) ∧ Hid (∀ i c, i < k → s.ctrs[i]? = some c → okCtr n2 c = true) ∧ Hid (((s.ctrs.take k).map (·.card)).Nodup) ∧ Hid (Below W0.heap.size W0 wr))
      case atStart => exact ⟨0, by go_num, by omega, by omega, HM0, Lib.hid (fun i c hi => by omega), Lib.hid (by simp), HBm⟩
      case round =>
        clear HM0 HBm
        obtain ⟨k, rfl, hk, hg1, HM, HA, HND, HB⟩ := hrel
        have p1 := (HB.out.cell (p := ⟨w.heap.size, 1, none⟩) hs0).trans q1
        have hsr : w.heap.size < wr.heap.size := Nat.lt_of_lt_of_le hs0 HB.out.size
        by_cases hlt : k < n3
        · have hltz : (k : Int) < (n3 : Int) := by omega
          obtain ⟨b, off, c, hbe, hbl, hc, k0, k1, k2, k3⟩ := rdCtr_at (HSW.out.r3.keep HB.out) (k := k) (by rw [HSW.out.l3]; exact hlt)
          obtain ⟨x0, hx0⟩ : ∃ z, inside c.own 0 ((n2 : Int) - 1) = z := ⟨_, rfl⟩
          obtain ⟨x1, hx1⟩ : ∃ z, inside c.rank 1 9 = z := ⟨_, rfl⟩
          obtain ⟨x2, hx2⟩ : ∃ z, inside c.card 1 1000000 = z := ⟨_, rfl⟩
          have HX0 := Lib.hid hx0
          have HX1 := Lib.hid hx1
          have HX2 := Lib.hid hx2
          have HOK : Hid (okCtr n2 c = (x0 && (x1 && x2))) := Lib.hid (by
            rw [← hx0, ← hx1, ← hx2, Bool.eq_iff_iff]
            unfold okCtr
            simp only [Bool.and_eq_true, inside_iff, decide_eq_true_eq]
            omega)
          have HBADC : Hid (okCtr n2 c = false → false = partsB s) := Lib.hid (fun h => partsB_no (fun hp => by
            have := hp.ctr c (List.mem_of_getElem? hc)
            rw [HL.out.2.1, h] at this
            cases this))
          have al : Below wr.heap.size wr (wr.alloc (.cells #[.string c.name, .int .i64 c.own, .int .i64 c.rank, .int .i64 c.card] 193)) := (Below.refl _ _).alloc (Nat.le_refl _) _
          obtain ⟨X, hX⟩ : ∃ X, X = wr.alloc (.cells #[.string c.name, .int .i64 c.own, .int .i64 c.rank, .int .i64 c.card] 193) := ⟨_, rfl⟩
          have g0 : X.cell? ⟨wr.heap.size, 1, none⟩ = some (.int .i64 c.own) := by rw [hX]; go_simp
          have g1 : X.cell? ⟨wr.heap.size, 2, none⟩ = some (.int .i64 c.rank) := by rw [hX]; go_simp
          have g2 : X.cell? ⟨wr.heap.size, 3, none⟩ = some (.int .i64 c.card) := by rw [hX]; go_simp
          have lX : wr.heap.size < X.heap.size := by rw [hX]; simp
          rw [← hX] at al
          have p1 := (al.cell (p := ⟨w.heap.size, 1, none⟩) hsr).trans p1
          have lS : w.heap.size < X.heap.size := by omega
          have HBX0 := Lib.hid (HB.out.trans (al.mono HB.out.size))
          have HMX := Lib.hid (HM.out.keep al)
          have HC := Lib.hid hc
          have HXX := Lib.hid hX.symm
          obtain ⟨bc, hbc⟩ : ∃ bc, bc = wr.heap.size := ⟨_, rfl⟩
          have HBC := Lib.hid hbc
          rw [← hbc] at g0 g1 g2 lX
          subst hbe
          clear hx0 hx1 hx2 hc al HB HM hX hbc
          go_upto_region 11 with (fail)
          rw [HXX.out, ← HBC.out]
          clear HXX HBC k0 k1 k2 k3 hsr
          go_wp2_with fail
          refine (stHolds_any 0 ((n2 : Int) - 1) c.own _).mono ?_
          rw [HX0.out]
          rintro e w1 ⟨rfl, hw1⟩
          have hb1 : Below X.heap.size X w1 := by rw [hw1]; exact (Below.refl _ _).alloc (Nat.le_refl _) _
          have HBX1 := Lib.hid (HBX0.out.trans (hb1.mono HBX0.out.size))
          have HM1 := Lib.hid (HMX.out.keep hb1)
          have g1 := (hb1.cell (p := ⟨bc, 2, none⟩) lX).trans g1
          have g2 := (hb1.cell (p := ⟨bc, 3, none⟩) lX).trans g2
          have lX := Nat.lt_of_lt_of_le lX hb1.size
          clear hw1 hb1 g0 HBX0 HMX
          cases x0
          · have HF := Lib.hid (HBADC.out (by rw [HOK.out]; rfl))
            have HE := Lib.hid (below_then HB0.out HBX1.out)
            go_wp2_with fail
            go_ret
            exact ⟨ret_bool HF.out, HE.out⟩
          go_wp2_with fail
          refine (stHolds_any 1 9 c.rank _).mono ?_
          rw [HX1.out]
          rintro e w2 ⟨rfl, hw2⟩
          have hb2 : Below w1.heap.size w1 w2 := by rw [hw2]; exact (Below.refl _ _).alloc (Nat.le_refl _) _
          have HBX2 := Lib.hid (HBX1.out.trans (hb2.mono HBX1.out.size))
          have HM2 := Lib.hid (HM1.out.keep hb2)
          have g2 := (hb2.cell (p := ⟨bc, 3, none⟩) lX).trans g2
          have lX := Nat.lt_of_lt_of_le lX hb2.size
          clear hw2 hb2 g1 HBX1 HM1
          cases x1
          · have HF := Lib.hid (HBADC.out (by rw [HOK.out]; rfl))
            have HE := Lib.hid (below_then HB0.out HBX2.out)
            go_wp2_with fail
            go_ret
            exact ⟨ret_bool HF.out, HE.out⟩
          go_wp2_with fail
          refine (stHolds_any 1 1000000 c.card _).mono ?_
          rw [HX2.out]
          rintro e w3 ⟨rfl, hw3⟩
          have hb3 : Below w2.heap.size w2 w3 := by rw [hw3]; exact (Below.refl _ _).alloc (Nat.le_refl _) _
          have HBX3 := Lib.hid (HBX2.out.trans (hb3.mono HBX2.out.size))
          have HM3 := Lib.hid (HM2.out.keep hb3)
          have g2 := (hb3.cell (p := ⟨bc, 3, none⟩) lX).trans g2
          have lX := Nat.lt_of_lt_of_le lX hb3.size
          clear hw3 hb3 HBX2 HM2
          cases x2
          · have HF := Lib.hid (HBADC.out (by rw [HOK.out]; rfl))
            have HE := Lib.hid (below_then HB0.out HBX3.out)
            go_wp2_with fail
            go_ret
            exact ⟨ret_bool HF.out, HE.out⟩
          have HWF : Hid ((Lit.int .i64 c.card).wf = true) := Lib.hid (by
            have := inside_iff.1 HX2.out
            simp [Lit.wf, IntKind.min, IntKind.max, IntKind.signed, IntKind.bits]
            omega)
          have hkey := keyOf_int_mk Tryz.underlying3 HWF.out
          have hlook := HM3.out.look intK Tryz.underlying201 Tryz.underlying4 (zeroB w3) hkey trivial
          obtain ⟨z, hz⟩ : ∃ z, inS (cardL (s.ctrs.take k)) (.int .i64 c.card) = z := ⟨_, rfl⟩
          rw [hz] at hlook
          have HZ := Lib.hid hz
          clear hz hkey
          cases z
          case true =>
            have HF : Hid (false = partsB s) := Lib.hid (partsB_no (fun hp => by
              have hm := mem_cardL.1 (inS_iff.1 HZ.out)
              have hnd := hp.cards
              have e : (s.ctrs.map (·.card)) = ((s.ctrs.take k).map (·.card)) ++ ((s.ctrs.drop k).map (·.card)) := by rw [← List.map_append, List.take_append_drop]
              rw [e, List.nodup_append] at hnd
              have hin : c.card ∈ (s.ctrs.drop k).map (·.card) := List.mem_map.2 ⟨c, List.mem_of_getElem? (i := 0) (by rw [List.getElem?_drop]; exact HC.out), rfl⟩
              exact hnd.2.2 _ hm _ hin rfl))
            have HE := Lib.hid (below_then HB0.out HBX3.out)
            go_wp2_with fail
            go_ret
            exact ⟨ret_bool HF.out, HE.out⟩
          obtain ⟨w4, hput, HM4, HMD⟩ := HM3.out.put (t := 201) intK Tryz.underlying201 Tryz.underlying4 (by omega) (keyOf_int_mk Tryz.underlying3 HWF.out) trivial
          have HTK : Hid (s.ctrs.take (k + 1) = s.ctrs.take k ++ [c]) := Lib.hid (take_snoc HC.out)
          have HM5 : Hid (SetM Tryz.prog 3 4 w4 B (k + 1) (cardL (s.ctrs.take (k + 1)))) := Lib.hid (by
            rw [HTK.out]
            have h := HM4.out
            unfold cardL at h ⊢
            rw [List.map_append]
            exact h)
          have HB4 : Hid (Below W0.heap.size W0 w4) := Lib.hid (HBX3.out.trans (HMD.out.below HBX3.out.size (fun q _ hq => by rw [hq]; exact hBl)))
          have HA2 : Hid (∀ i c, i < k + 1 → s.ctrs[i]? = some c → okCtr n2 c = true) := Lib.hid (fun i c' hi hc' => by
            by_cases e : i = k
            · subst e
              rw [HC.out] at hc'
              injection hc' with hc'
              rw [← hc', HOK.out]; rfl
            · exact HA.out i c' (by omega) hc')
          have HND2 : Hid (((s.ctrs.take (k + 1)).map (·.card)).Nodup) := Lib.hid (by
            rw [HTK.out, List.map_append, List.nodup_append]
            refine ⟨HND.out, by simp, fun x hx y hy e => ?_⟩
            simp at hy
            subst hy
            subst e
            have := inS_iff.2 (mem_cardL.2 hx)
            rw [HZ.out] at this
            cases this)
          clear HM3 HMD HM4 HA HND HZ HTK
          go_wp2_with fail
          go_roundg (n3 - (k + 1))
          case measure => omega
          case rel => exact ⟨k + 1, by go_num, by omega, by omega, HM5, HA2, HND2, HB4⟩
        · have hltz : ¬ (k : Int) < (n3 : Int) := by omega
          have HCTR : Hid (∀ c, c ∈ s.ctrs → okCtr s.owns.length c = true) := Lib.hid (fun c hc => by
            obtain ⟨i, hi⟩ := List.mem_iff_getElem?.1 hc
            rw [HL.out.2.1]
            exact HA.out i c (by have := (List.getElem?_eq_some_iff.1 hi).1; rw [HL.out.2.2.1] at this; omega) hi)
          have HCARD : Hid ((s.ctrs.map (·.card)).Nodup) := Lib.hid (by
            have h := HND.out
            rwa [List.take_of_length_le (by rw [HL.out.2.2.1]; omega)] at h)
          have p3 := (HB.out.cell (p := ⟨w.heap.size, 3, none⟩) hs0).trans q3
          have HB2 := HB
          clear HA HND HM hk hg1 hlt p1 HB
          go_wp2_with fail
          clear p3 hsr
          go_loopg [9, 69] n4 (fun g1 v9 v69 wr => ∃ k : Nat, v69 = .int .i64 k ∧ k ≤ n4 ∧ n4 - k ≤ g1 ∧ Hid (∀ i c, i < k → s.chgs[i]? = some c → okChg n1 n2 c = true) ∧ Hid (Below W0.heap.size W0 wr))
          case atStart => exact ⟨0, by go_num, by omega, by omega, Lib.hid (fun i c hi => by omega), HB2⟩
          case round =>
            clear HB2
            obtain ⟨k, rfl, hk, hg1, HA, HB⟩ := hrel
            have hsr : w.heap.size < wr.heap.size := Nat.lt_of_lt_of_le hs0 HB.out.size
            have p0 := (HB.out.cell (p := ⟨w.heap.size, 0, none⟩) hs0).trans q0
            have p1 := (HB.out.cell (p := ⟨w.heap.size, 1, none⟩) hs0).trans q1
            have p2 := (HB.out.cell (p := ⟨w.heap.size, 2, none⟩) hs0).trans q2
            have p3 := (HB.out.cell (p := ⟨w.heap.size, 3, none⟩) hs0).trans q3
            have p4 := (HB.out.cell (p := ⟨w.heap.size, 4, none⟩) hs0).trans q4
            by_cases hlt : k < n4
            · have hltz : (k : Int) < (n4 : Int) := by omega
              obtain ⟨b, off, c, hbe, hbl, hc, k0, k1, k2, k3, k4, k5, k6, k7⟩ := rdChg_at (HSW.out.r4.keep HB.out) (k := k) (by rw [HSW.out.l4]; exact hlt)
              have al : Below wr.heap.size wr (wr.alloc (.cells #[.string c.name, .int .i64 c.place, .int .i64 c.ph, .int .i64 c.mn, .int .i64 c.mx, .int .i64 c.step, .int .i64 c.fb, .int .i64 c.own] 59)) := (Below.refl _ _).alloc (Nat.le_refl _) _
              have HBA := Lib.hid (HB.out.trans (al.mono HB.out.size))
              have hCall := Lib.hid (stChg_any a1 a2 a3 a4 a5 n1 c1 n2 c2 n3 c3 n4 c4 n5 c5 c (wr.alloc (.cells #[.string c.name, .int .i64 c.place, .int .i64 c.ph, .int .i64 c.mn, .int .i64 c.mx, .int .i64 c.step, .int .i64 c.fb, .int .i64 c.own] 59)) h1 h2)
              have HC := Lib.hid hc
              subst hbe
              clear hc al HB
              go_wp2_with fail
              refine hCall.out.mono ?_
              rintro e w5 ⟨rfl, hb5⟩
              have HB5 := Lib.hid (HBA.out.trans (hb5.mono HBA.out.size))
              clear hb5
              obtain ⟨z, hz⟩ : ∃ z, okChg n1 n2 c = z := ⟨_, rfl⟩
              rw [hz]
              have HZ := Lib.hid hz
              clear hz
              cases z
              · have HF : Hid (false = partsB s) := Lib.hid (partsB_no (fun h => by
                  have := h.chg c (List.mem_of_getElem? HC.out)
                  rw [HL.out.1, HL.out.2.1, HZ.out] at this; cases this))
                have HE := Lib.hid (below_then HB0.out HB5.out)
                go_wp2_with fail
                go_ret
                exact ⟨ret_bool HF.out, HE.out⟩
              · have HA2 : Hid (∀ i c, i < k + 1 → s.chgs[i]? = some c → okChg n1 n2 c = true) := Lib.hid (fun i c' hi hc' => by
                  by_cases e : i = k
                  · subst e
                    rw [HC.out] at hc'
                    injection hc' with hc'
                    rw [← hc']; exact HZ.out
                  · exact HA.out i c' (by omega) hc')
                clear HA
                go_wp2_with fail
                go_roundg (n4 - (k + 1))
                case measure => omega
                case rel => exact ⟨k + 1, by go_num, by omega, by omega, HA2, HB5⟩
            · have hltz : ¬ (k : Int) < (n4 : Int) := by omega
              have HCHG : Hid (∀ c, c ∈ s.chgs → okChg s.cons.length s.owns.length c = true) := Lib.hid (fun c hc => by
                obtain ⟨i, hi⟩ := List.mem_iff_getElem?.1 hc
                rw [HL.out.1, HL.out.2.1]
                exact HA.out i c (by have := (List.getElem?_eq_some_iff.1 hi).1; rw [HL.out.2.2.2.1] at this; omega) hi)
              have HB2 := HB
              clear HA hk hg1 hlt HB
              go_wp2_with fail
              clear p0 p1 p2 p3 p4 hsr
              go_loopg [11, 81] n5 (fun g1 v11 v81 wr => ∃ k : Nat, v81 = .int .i64 k ∧ k ≤ n5 ∧ n5 - k ≤ g1 ∧ Hid (∀ i c, i < k → s.bays[i]? = some c → okBay n4 c = true) ∧ Hid (Below W0.heap.size W0 wr))
              case atStart => exact ⟨0, by go_num, by omega, by omega, Lib.hid (fun i c hi => by omega), HB2⟩
              case round =>
                clear HB2
                obtain ⟨k, rfl, hk, hg1, HA, HB⟩ := hrel
                have hsr : w.heap.size < wr.heap.size := Nat.lt_of_lt_of_le hs0 HB.out.size
                have p3 := (HB.out.cell (p := ⟨w.heap.size, 3, none⟩) hs0).trans q3
                by_cases hlt : k < n5
                · have hltz : (k : Int) < (n5 : Int) := by omega
                  obtain ⟨b, off, c, hbe, hbl, hc, k0, k1⟩ := rdBay_at (HSW.out.r5.keep HB.out) (k := k) (by rw [HSW.out.l5]; exact hlt)
                  have al : Below wr.heap.size wr (wr.alloc (.cells #[.string c.name, .int .i64 c.chg] 195)) := (Below.refl _ _).alloc (Nat.le_refl _) _
                  have HBA := Lib.hid (HB.out.trans (al.mono HB.out.size))
                  have HC := Lib.hid hc
                  obtain ⟨z, hz⟩ : ∃ z, inside c.chg 0 ((n4 : Int) - 1) = z := ⟨_, rfl⟩
                  have HZ := Lib.hid hz
                  have HOK : Hid (okBay n4 c = z) := Lib.hid (by
                    rw [← hz, Bool.eq_iff_iff]
                    unfold okBay
                    simp only [inside_iff, decide_eq_true_eq]
                    omega)
                  subst hbe
                  clear hc al HB hz
                  go_wp2_with fail
                  refine (stHolds_any 0 ((n4 : Int) - 1) c.chg _).mono ?_
                  rw [HZ.out]
                  rintro e w5 ⟨rfl, hw5⟩
                  have HB5 : Hid (Below W0.heap.size W0 w5) := Lib.hid (by rw [hw5]; exact HBA.out.alloc HBA.out.size _)
                  clear hw5
                  cases z
                  · have HF : Hid (false = partsB s) := Lib.hid (partsB_no (fun h => by
                      have := h.bay c (List.mem_of_getElem? HC.out)
                      rw [HL.out.2.2.2.1, HOK.out] at this; cases this))
                    have HE := Lib.hid (below_then HB0.out HB5.out)
                    go_wp2_with fail
                    go_ret
                    exact ⟨ret_bool HF.out, HE.out⟩
                  · have HA2 : Hid (∀ i c, i < k + 1 → s.bays[i]? = some c → okBay n4 c = true) := Lib.hid (fun i c' hi hc' => by
                      by_cases e : i = k
                      · subst e
                        rw [HC.out] at hc'
                        injection hc' with hc'
                        rw [← hc']; exact HOK.out
                      · exact HA.out i c' (by omega) hc')
                    clear HA
                    go_wp2_with fail
                    go_roundg (n5 - (k + 1))
                    case measure => omega
                    case rel => exact ⟨k + 1, by go_num, by omega, by omega, HA2, HB5⟩
                · have hltz : ¬ (k : Int) < (n5 : Int) := by omega
                  have HT : Hid (true = partsB s) := Lib.hid (partsB_iff.2 ⟨HCON.out, HCTR.out, HCARD.out, HCHG.out, fun c hc => by
                    obtain ⟨i, hi⟩ := List.mem_iff_getElem?.1 hc
                    rw [HL.out.2.2.2.1]
                    exact HA.out i c (by have := (List.getElem?_eq_some_iff.1 hi).1; rw [HL.out.2.2.2.2] at this; omega) hi⟩).symm
                  have HE := Lib.hid (below_then HB0.out HB.out)
                  clear HA HB
                  go_wp2_with fail
                  go_ret
                  exact ⟨ret_bool HT.out, HE.out⟩
end Go.Proofs.YtkbbapefgifagaaGreatDoor
/-
site.Valid, walked.
-/
namespace Go.Proofs.YtkbbapefgifagaaGreatDoor
open Go.RowKit Go.Maps
set_option linter.unusedVariables false
set_option linter.unusedSimpArgs false
theorem strK : Keyed Tryz.prog 9 := string_keyed Tryz.underlying9
def nmLit (x : ByteArray) : Lit := .string x.data.toList
theorem nmLit_inj {x y : ByteArray} : nmLit x = nmLit y ↔ x.toList = y.toList := by
  unfold nmLit
  rw [ByteArray.toList_eq, ByteArray.toList_eq]
  constructor
  · intro h; injection h
  · intro h; rw [h]
theorem okSite_of {s : GSite} (h : OkSite keyL s) : PartsP s := ⟨h.con, h.ctr, h.cards, h.chg, h.bay⟩
theorem okSB_of {keys : List (List UInt8)} {s : GSite} (h : ¬ OkSite keys s) : false = okSB keys s := (okSB_no h).symm
set_option maxRecDepth 100000 in
set_option maxHeartbeats 16000000 in
theorem stValid_any (a1 a2 a3 a4 a5 : Option Addr) (n1 c1 n2 c2 n3 c3 n4 c4 n5 c5 : Nat) (s : GSite) (w : World) (HS : Hid (RdSite w a1 a2 a3 a4 a5 n1 n2 n3 n4 n5 s)) :
    Calls Tryz.prog 80 #[.agg #[.slice a1 n1 c1, .slice a2 n2 c2, .slice a3 n3 c3, .slice a4 n4 c4, .slice a5 n5 c5]] w fun e w' => e = .returned (.bool (okSB keyL s)) ∧ Below w.heap.size w w' := by
  obtain ⟨m1, m2, m3, m4, m5⟩ : n1 ≤ 9223372036854775807 ∧ n2 ≤ 9223372036854775807 ∧ n3 ≤ 9223372036854775807 ∧ n4 ≤ 9223372036854775807 ∧ n5 ≤ 9223372036854775807 := ⟨HS.out.m1, HS.out.m2, HS.out.m3, HS.out.m4, HS.out.m5⟩
  by_cases c1a : 1 ≤ n1
  case neg =>
    have HF : Hid (false = okSB keyL s) := Lib.hid (okSB_of (fun h => c1a (by have := h.n1; rw [HS.out.l1] at this; exact this)))
    have z0 : (n1 : Int) < 1 := by omega
    clear c1a
    go_enter Tryz.func80, Tryz.ntmps80
    go_wp2_with fail
    go_ret
    exact ⟨ret_bool HF.out, (Below.refl _ w).alloc (Nat.le_refl _) _⟩
  have z0 : ¬ (n1 : Int) < 1 := by omega
  by_cases c1b : n1 ≤ 16
  case neg =>
    have HF : Hid (false = okSB keyL s) := Lib.hid (okSB_of (fun h => c1b (by have := h.n2; rw [HS.out.l1] at this; exact this)))
    have z1 : (16 : Int) < (n1 : Int) := by omega
    clear c1b
    go_enter Tryz.func80, Tryz.ntmps80
    go_wp2_with fail
    go_ret
    exact ⟨ret_bool HF.out, (Below.refl _ w).alloc (Nat.le_refl _) _⟩
  have z1 : ¬ (16 : Int) < (n1 : Int) := by omega
  by_cases c2a : n2 ≤ 8
  case neg =>
    have HF : Hid (false = okSB keyL s) := Lib.hid (okSB_of (fun h => c2a (by have := h.n3; rw [HS.out.l2] at this; exact this)))
    have z2 : (8 : Int) < (n2 : Int) := by omega
    clear c2a
    go_enter Tryz.func80, Tryz.ntmps80
    go_wp2_with fail
    go_ret
    exact ⟨ret_bool HF.out, (Below.refl _ w).alloc (Nat.le_refl _) _⟩
  have z2 : ¬ (8 : Int) < (n2 : Int) := by omega
  by_cases c3a : n3 ≤ 32
  case neg =>
    have HF : Hid (false = okSB keyL s) := Lib.hid (okSB_of (fun h => c3a (by have := h.n4; rw [HS.out.l3] at this; exact this)))
    have z3 : (32 : Int) < (n3 : Int) := by omega
    clear c3a
    go_enter Tryz.func80, Tryz.ntmps80
    go_wp2_with fail
    go_ret
    exact ⟨ret_bool HF.out, (Below.refl _ w).alloc (Nat.le_refl _) _⟩
  have z3 : ¬ (32 : Int) < (n3 : Int) := by omega
  by_cases c4a : n4 ≤ 16
  case neg =>
    have HF : Hid (false = okSB keyL s) := Lib.hid (okSB_of (fun h => c4a (by have := h.n5; rw [HS.out.l4] at this; exact this)))
    have z4 : (16 : Int) < (n4 : Int) := by omega
    clear c4a
    go_enter Tryz.func80, Tryz.ntmps80
    go_wp2_with fail
    go_ret
    exact ⟨ret_bool HF.out, (Below.refl _ w).alloc (Nat.le_refl _) _⟩
  have z4 : ¬ (16 : Int) < (n4 : Int) := by omega
  by_cases c5a : n5 ≤ 24
  case neg =>
    have HF : Hid (false = okSB keyL s) := Lib.hid (okSB_of (fun h => c5a (by have := h.n6; rw [HS.out.l5] at this; exact this)))
    have z5 : (24 : Int) < (n5 : Int) := by omega
    clear c5a
    go_enter Tryz.func80, Tryz.ntmps80
    go_wp2_with fail
    go_ret
    exact ⟨ret_bool HF.out, (Below.refl _ w).alloc (Nat.le_refl _) _⟩
  have z5 : ¬ (24 : Int) < (n5 : Int) := by omega
  obtain ⟨W0, hW0⟩ : ∃ W0, W0 = w.alloc (.cells #[.slice a1 n1 c1, .slice a2 n2 c2, .slice a3 n3 c3, .slice a4 n4 c4, .slice a5 n5 c5] 39) := ⟨_, rfl⟩
  have b0 : Below w.heap.size w W0 := by rw [hW0]; exact (Below.refl _ w).alloc (Nat.le_refl _) _
  have hs0 : w.heap.size < W0.heap.size := by rw [hW0]; simp
  have q0 : W0.cell? ⟨w.heap.size, 0, none⟩ = some (.slice a1 n1 c1) := by rw [hW0]; go_simp
  have q1 : W0.cell? ⟨w.heap.size, 1, none⟩ = some (.slice a2 n2 c2) := by rw [hW0]; go_simp
  have q2 : W0.cell? ⟨w.heap.size, 2, none⟩ = some (.slice a3 n3 c3) := by rw [hW0]; go_simp
  have q3 : W0.cell? ⟨w.heap.size, 3, none⟩ = some (.slice a4 n4 c4) := by rw [hW0]; go_simp
  have q4 : W0.cell? ⟨w.heap.size, 4, none⟩ = some (.slice a5 n5 c5) := by rw [hW0]; go_simp
  have HW0 := Lib.hid hW0.symm
  have HB0 := Lib.hid b0
  have HSW := Lib.hid (HS.out.keep b0)
  have HL : Hid (s.cons.length = n1 ∧ s.owns.length = n2 ∧ s.ctrs.length = n3 ∧ s.chgs.length = n4 ∧ s.bays.length = n5) := Lib.hid ⟨HS.out.l1, HS.out.l2, HS.out.l3, HS.out.l4, HS.out.l5⟩
  have HSZ : Hid (∀ x, x ∈ allNames s → x.size ≤ maxLen) := Lib.hid HS.out.nm
  have HLN : Hid ((allNames s).length = n1 + n2 + n3 + n4 + n5) := Lib.hid (by
    unfold allNames
    simp only [List.length_append, List.length_map, HS.out.l1, HS.out.l2, HS.out.l3, HS.out.l4, HS.out.l5])
  clear hW0 b0 HS
  have hmm := @run_makeMap Tryz.prog
  go_enter Tryz.func80, Tryz.ntmps80
  go_upto_region 3 with (fail)
  rw [HW0.out]
  have HM0 : Hid (SetM Tryz.prog 9 4 (W0.alloc (.map #[] 0)) W0.heap.size 0 ([].map nmLit)) := Lib.hid (SetM.made _)
  have am : Below W0.heap.size W0 (W0.alloc (.map #[] 0)) := (Below.refl _ _).alloc (Nat.le_refl _) _
  have HAM := Lib.hid am
  have HC4 := Lib.hid (stNames_any a1 a2 a3 a4 a5 n1 c1 n2 c2 n3 c3 n4 c4 n5 c5 s (W0.alloc (.map #[] 0)) (Lib.hid (HSW.out.keep am)) c1b c2a c3a c4a c5a)
  clear am
  go_wp2_with fail
  refine HC4.out.mono ?_
  rintro e w1 ⟨aN, cN, rfl, rN, hbN⟩
  obtain ⟨L, hL⟩ : ∃ L, L = n1 + n2 + n3 + n4 + n5 := ⟨_, rfl⟩
  rw [← hL] at HLN ⊢
  have hL96 : L ≤ 96 := by omega
  have HRN := Lib.hid rN
  obtain ⟨B, hB⟩ : ∃ B, B = W0.heap.size := ⟨_, rfl⟩
  have HM1 : Hid (SetM Tryz.prog 9 4 w1 B 0 (((allNames s).take 0).map nmLit)) := Lib.hid (by rw [hB]; exact HM0.out.keep hbN)
  have HB1 : Hid (Below W0.heap.size W0 w1) := Lib.hid (below_then HAM.out hbN)
  have hBl : W0.heap.size ≤ B := by omega
  have hBN : B < w1.heap.size := by rw [hB]; exact Nat.lt_of_lt_of_le (by simp) hbN.size
  have HBB := Lib.hid hB
  have HRNB : Hid (0 < L → ∀ b, aN = some b → b.block ≠ B) := Lib.hid (fun h0 b hb e => by
    obtain ⟨b', off, hA, hlt, hc⟩ := rN (by rw [HLN.out]; exact h0)
    rw [hb] at hA
    injection hA with hA
    subst hA
    dsimp only at e
    obtain ⟨x, hx⟩ : ∃ x, (allNames s)[0]? = some x := ⟨_, List.getElem?_eq_getElem (by rw [HLN.out]; exact h0)⟩
    have h3 := hc 0 x hx 0 _ rfl
    obtain ⟨D, ⟨es, clock, hm, _⟩, _⟩ := HM1.out
    rw [e] at h3
    unfold World.cell? at h3
    rw [hm] at h3
    simp at h3)
  clear hB hbN rN hL HC4 HM0 HAM
  go_wp2_with fail
  rw [← HBB.out]
  clear HBB
  go_loopg [5, 44] L (fun g1 v5 v44 wr => ∃ k : Nat, v44 = .int .i64 k ∧ k ≤ L ∧ L - k ≤ g1 ∧ Hid (SetM Tryz.prog 9 4 wr B k (((allNames s).take k).map nmLit)) ∧ Hid (∀ x, x ∈ (allNames s).take k → okNameB keyL x = true) ∧ Hid ((((allNames s).take k).map (·.toList)).Nodup) ∧ Hid (Rd 1 encS wr aN (allNames s)) ∧ Hid (Below W0.heap.size W0 wr))
  case atStart => exact ⟨0, by go_num, by omega, by omega, HM1, Lib.hid (fun x hx => by simp at hx), Lib.hid (by simp), HRN, HB1⟩
  case round =>
    clear HM1 HB1 HRN hBN
    obtain ⟨k, rfl, hk, hg1, HM, HA, HND, HRN, HB⟩ := hrel
    by_cases hlt : k < L
    · have hltz : (k : Int) < (L : Int) := by omega
      obtain ⟨b, off, x, hbe, hbl, hx, hxc⟩ := rdOwn_at HRN.out (k := k) (by rw [HLN.out]; exact hlt)
      have hsz := HSZ.out x (List.mem_of_getElem? hx)
      have hCall := Lib.hid (stGood_any x wr (by unfold maxLen at hsz; omega))
      have HXK := Lib.hid hx
      have HSX := Lib.hid hsz
      have HNE := Lib.hid (HRNB.out (by omega) _ hbe)
      subst hbe
      clear hx hsz
      go_wp2_with fail
      refine hCall.out.mono ?_
      rintro e w5 ⟨rfl, hb5⟩
      have HM5 := Lib.hid (HM.out.keep hb5)
      have HR5 := Lib.hid (HRN.out.keep hb5)
      have HB5 := Lib.hid (HB.out.trans (hb5.mono HB.out.size))
      clear hb5 hCall HM HRN HB
      obtain ⟨z, hz⟩ : ∃ z, okNameB keyL x = z := ⟨_, rfl⟩
      rw [hz]
      have HZ := Lib.hid hz
      clear hz
      cases z
      · have HF : Hid (false = okSB keyL s) := Lib.hid (okSB_of (fun h => by
          have := h.names.1 x (List.mem_of_getElem? HXK.out)
          rw [HZ.out] at this; cases this))
        have HE := Lib.hid (below_then HB0.out HB5.out)
        go_wp2_with fail
        go_ret
        exact ⟨ret_bool HF.out, HE.out⟩
      have hkey : keyOf Tryz.prog 9 (.string x) = some (nmLit x) := WideMaps.keyOf_string_mk Tryz.underlying9 HSX.out
      have hlook := HM5.out.look strK Tryz.underlying178 Tryz.underlying4 (zeroB w5) hkey trivial
      obtain ⟨z2, hz2⟩ : ∃ z, inS (((allNames s).take k).map nmLit) (nmLit x) = z := ⟨_, rfl⟩
      rw [hz2] at hlook
      have HZ2 := Lib.hid hz2
      have HKEY := Lib.hid hkey
      clear hz2 hkey
      cases z2
      case true =>
        have HF : Hid (false = okSB keyL s) := Lib.hid (okSB_of (fun h => by
          obtain ⟨y, hy, hyx⟩ := List.mem_map.1 (inS_iff.1 HZ2.out)
          have hyx2 := nmLit_inj.1 hyx
          have hnd := h.names.2
          have e : (allNames s).map (·.toList) = ((allNames s).take k).map (·.toList) ++ ((allNames s).drop k).map (·.toList) := by rw [← List.map_append, List.take_append_drop]
          rw [e, List.nodup_append] at hnd
          exact hnd.2.2 _ (List.mem_map.2 ⟨y, hy, rfl⟩) _ (List.mem_map.2 ⟨x, List.mem_of_getElem? (i := 0) (by rw [List.getElem?_drop]; exact HXK.out), rfl⟩) hyx2))
        have HE := Lib.hid (below_then HB0.out HB5.out)
        go_wp2_with fail
        go_ret
        exact ⟨ret_bool HF.out, HE.out⟩
      obtain ⟨w6, hput, HM6, HMD⟩ := HM5.out.put (t := 178) strK Tryz.underlying178 Tryz.underlying4 (by omega) HKEY.out trivial
      have HTK : Hid ((allNames s).take (k + 1) = (allNames s).take k ++ [x]) := Lib.hid (take_snoc HXK.out)
      have HM7 : Hid (SetM Tryz.prog 9 4 w6 B (k + 1) (((allNames s).take (k + 1)).map nmLit)) := Lib.hid (by
        rw [HTK.out, List.map_append]
        exact HM6.out)
      have HB6 : Hid (Below W0.heap.size W0 w6) := Lib.hid (HB5.out.trans (HMD.out.below HB5.out.size (fun q _ hq => by rw [hq]; exact hBl)))
      have HR6 : Hid (Rd 1 encS w6 (some ⟨b, off, none⟩) (allNames s)) := Lib.hid (HR5.out.mod HMD.out (fun a ha _ hq => by
        injection ha with ha
        rw [← ha] at hq
        exact HNE.out hq))
      have HA2 : Hid (∀ y, y ∈ (allNames s).take (k + 1) → okNameB keyL y = true) := Lib.hid (fun y hy => by
        rw [HTK.out] at hy
        rcases List.mem_append.1 hy with h | h
        · exact HA.out y h
        · simp at h; rw [h]; exact HZ.out)
      have HND2 : Hid ((((allNames s).take (k + 1)).map (·.toList)).Nodup) := Lib.hid (by
        rw [HTK.out, List.map_append, List.nodup_append]
        refine ⟨HND.out, by simp, fun u hu v hv e => ?_⟩
        simp at hv
        subst hv
        subst e
        obtain ⟨y, hy, hyx⟩ := List.mem_map.1 hu
        have := inS_iff.2 (List.mem_map.2 ⟨y, hy, nmLit_inj.2 hyx⟩ : nmLit x ∈ ((allNames s).take k).map nmLit)
        rw [HZ2.out] at this
        cases this)
      clear HM5 HMD HM6 HA HND HZ HZ2 HTK HR5 HB5
      go_wp2_with fail
      go_roundg (L - (k + 1))
      case measure => omega
      case rel => exact ⟨k + 1, by go_num, by omega, by omega, HM7, HA2, HND2, HR6, HB6⟩
    · have hltz : ¬ (k : Int) < (L : Int) := by omega
      have HNM : Hid (okNamesP keyL (allNames s)) := Lib.hid (by
        have h1 := HA.out
        have h2 := HND.out
        rw [List.take_of_length_le (by rw [HLN.out]; omega)] at h1 h2
        exact ⟨h1, h2⟩)
      have p0 := (HB.out.cell (p := ⟨w.heap.size, 0, none⟩) hs0).trans q0
      have p1 := (HB.out.cell (p := ⟨w.heap.size, 1, none⟩) hs0).trans q1
      have p2 := (HB.out.cell (p := ⟨w.heap.size, 2, none⟩) hs0).trans q2
      have p3 := (HB.out.cell (p := ⟨w.heap.size, 3, none⟩) hs0).trans q3
      have p4 := (HB.out.cell (p := ⟨w.heap.size, 4, none⟩) hs0).trans q4
      have hCall := Lib.hid (stParts_any a1 a2 a3 a4 a5 n1 c1 n2 c2 n3 c3 n4 c4 n5 c5 s wr (Lib.hid (HSW.out.keep (HB.out))) c1b c2a c3a c4a c5a)
      have HOK : Hid (partsB s = okSB keyL s) := Lib.hid (by
        rw [Bool.eq_iff_iff, partsB_iff, okSB_iff]
        refine ⟨fun h => ⟨by rw [HL.out.1]; exact c1a, by rw [HL.out.1]; exact c1b, by rw [HL.out.2.1]; exact c2a, by rw [HL.out.2.2.1]; exact c3a, by rw [HL.out.2.2.2.1]; exact c4a, by rw [HL.out.2.2.2.2]; exact c5a, HNM.out, h.con, h.ctr, h.cards, h.chg, h.bay⟩, okSite_of⟩)
      have HBw := Lib.hid (below_then HB0.out HB.out)
      clear HM HA HND HRN HB
      go_wp2_with fail
      refine hCall.out.mono ?_
      rintro e w9 ⟨rfl, hb9⟩
      have HE := Lib.hid (below_then HBw.out hb9)
      clear hb9
      go_wp2_with fail
      go_ret
      exact ⟨ret_bool HOK.out, HE.out⟩
end Go.Proofs.YtkbbapefgifagaaGreatDoor
