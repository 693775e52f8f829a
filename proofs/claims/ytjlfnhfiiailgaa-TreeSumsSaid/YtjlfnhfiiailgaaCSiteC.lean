/-
site.validCharger, walked.
-/
import Derived.Test.YtjlfnhfiiailgaaCSiteB
namespace Go.Proofs.Ytjlfnhfiiailgaa
open Go.RowKit
set_option linter.unusedVariables false
set_option linter.unusedSimpArgs false
def chgB (n1 n2 : Nat) (c : GChg) : Bool := inside c.place 0 ((n1 : Int) - 1) && (inside c.own 0 ((n2 : Int) - 1) && (inside c.ph 1 7 && (inside c.mn 1 80 && (inside c.mx 1 80 && (inside c.step 1 80 && (inside c.fb 0 80 && ampsB c))))))
theorem chgB_ok (n1 n2 : Nat) (c : GChg) : chgB n1 n2 c = okChg n1 n2 c := by
  rw [Bool.eq_iff_iff]
  unfold chgB okChg ampsB
  simp only [Bool.and_eq_true, inside_iff, decide_eq_true_eq, Bool.or_eq_true]
  omega
set_option maxRecDepth 100000 in
set_option maxHeartbeats 8000000 in
theorem stChg_any (a1 a2 a3 a4 a5 : Option Addr) (n1 c1 n2 c2 n3 c3 n4 c4 n5 c5 : Nat) (c : GChg) (w : World) (h1 : n1 ≤ 16) (h2 : n2 ≤ 8) :
    Calls Try.prog 47 #[.agg #[.slice a1 n1 c1, .slice a2 n2 c2, .slice a3 n3 c3, .slice a4 n4 c4, .slice a5 n5 c5], .agg #[.string c.name, .int .i64 c.place, .int .i64 c.ph, .int .i64 c.mn, .int .i64 c.mx, .int .i64 c.step, .int .i64 c.fb, .int .i64 c.own]] w fun e w' => e = .returned (.bool (okChg n1 n2 c)) ∧ Below w.heap.size w w' := by
  have HF4 := Lib.hid (chgB_ok n1 n2 c).symm
  unfold chgB at HF4
  obtain ⟨x0, hx0⟩ : ∃ z, inside c.place 0 ((n1 : Int) - 1) = z := ⟨_, rfl⟩
  rw [hx0] at HF4
  have HX0 := Lib.hid hx0
  clear hx0
  obtain ⟨x1, hx1⟩ : ∃ z, inside c.own 0 ((n2 : Int) - 1) = z := ⟨_, rfl⟩
  rw [hx1] at HF4
  have HX1 := Lib.hid hx1
  clear hx1
  obtain ⟨x2, hx2⟩ : ∃ z, inside c.ph 1 7 = z := ⟨_, rfl⟩
  rw [hx2] at HF4
  have HX2 := Lib.hid hx2
  clear hx2
  obtain ⟨x3, hx3⟩ : ∃ z, inside c.mn 1 80 = z := ⟨_, rfl⟩
  rw [hx3] at HF4
  have HX3 := Lib.hid hx3
  clear hx3
  obtain ⟨x4, hx4⟩ : ∃ z, inside c.mx 1 80 = z := ⟨_, rfl⟩
  rw [hx4] at HF4
  have HX4 := Lib.hid hx4
  clear hx4
  obtain ⟨x5, hx5⟩ : ∃ z, inside c.step 1 80 = z := ⟨_, rfl⟩
  rw [hx5] at HF4
  have HX5 := Lib.hid hx5
  clear hx5
  obtain ⟨x6, hx6⟩ : ∃ z, inside c.fb 0 80 = z := ⟨_, rfl⟩
  rw [hx6] at HF4
  have HX6 := Lib.hid hx6
  clear hx6
  obtain ⟨xa, hxa⟩ : ∃ z, ampsB c = z := ⟨_, rfl⟩
  rw [hxa] at HF4
  have HXA := Lib.hid hxa
  clear hxa
  go_enter Try.func47, Try.ntmps47
  go_upto_region 2 with (fail)
  refine wp_world (fun X => (X.cell? ⟨w.heap.size, 0, none⟩ = some (.slice a1 n1 c1) ∧ X.cell? ⟨w.heap.size, 1, none⟩ = some (.slice a2 n2 c2) ∧ X.cell? ⟨w.heap.size + 1, 0, none⟩ = some (.string c.name) ∧ X.cell? ⟨w.heap.size + 1, 1, none⟩ = some (.int .i64 c.place) ∧ X.cell? ⟨w.heap.size + 1, 2, none⟩ = some (.int .i64 c.ph) ∧ X.cell? ⟨w.heap.size + 1, 3, none⟩ = some (.int .i64 c.mn) ∧ X.cell? ⟨w.heap.size + 1, 4, none⟩ = some (.int .i64 c.mx) ∧ X.cell? ⟨w.heap.size + 1, 5, none⟩ = some (.int .i64 c.step) ∧ X.cell? ⟨w.heap.size + 1, 6, none⟩ = some (.int .i64 c.fb) ∧ X.cell? ⟨w.heap.size + 1, 7, none⟩ = some (.int .i64 c.own) ∧ X.cell? ⟨w.heap.size + 1 + 1, 0, none⟩ = some (.int .i64 1) ∧ X.cell? ⟨w.heap.size + 1 + 1, 1, none⟩ = some (.int .i64 80)) ∧ Below w.heap.size w X ∧ w.heap.size + 1 + 1 < X.heap.size) ⟨⟨by go_simp, by go_simp, by go_simp, by go_simp, by go_simp, by go_simp, by go_simp, by go_simp, by go_simp, by go_simp, by go_simp, by go_simp⟩, (((Below.refl _ _).alloc (Nat.le_refl _) _).alloc (by simp) _).alloc (by simp; omega) _, by simp⟩ ?_
  rintro X ⟨⟨s0, s1, h0, h1, h2, h3, h4, h5, h6, h7, p0, p1⟩, hbX, lP⟩
  have HBX0 := Lib.hid hbX
  have lS : w.heap.size < X.heap.size := by omega
  have lC : w.heap.size + 1 < X.heap.size := by omega
  clear hbX
  go_wp2_with fail
  refine (stHolds_any 0 ((n1 : Int) - 1) c.place _).mono ?_
  rw [HX0.out]
  rintro e w1 ⟨rfl, hww1⟩
  have hbw1 : Below X.heap.size X w1 := by rw [hww1]; exact (Below.refl _ _).alloc (Nat.le_refl _) _
  have HBX1 := Lib.hid (below_then HBX0.out hbw1)
  have s0 := (hbw1.cell (p := ⟨w.heap.size, 0, none⟩) lS).trans s0
  have s1 := (hbw1.cell (p := ⟨w.heap.size, 1, none⟩) lS).trans s1
  have h0 := (hbw1.cell (p := ⟨w.heap.size + 1, 0, none⟩) lC).trans h0
  have h1 := (hbw1.cell (p := ⟨w.heap.size + 1, 1, none⟩) lC).trans h1
  have h2 := (hbw1.cell (p := ⟨w.heap.size + 1, 2, none⟩) lC).trans h2
  have h3 := (hbw1.cell (p := ⟨w.heap.size + 1, 3, none⟩) lC).trans h3
  have h4 := (hbw1.cell (p := ⟨w.heap.size + 1, 4, none⟩) lC).trans h4
  have h5 := (hbw1.cell (p := ⟨w.heap.size + 1, 5, none⟩) lC).trans h5
  have h6 := (hbw1.cell (p := ⟨w.heap.size + 1, 6, none⟩) lC).trans h6
  have h7 := (hbw1.cell (p := ⟨w.heap.size + 1, 7, none⟩) lC).trans h7
  have p0 := (hbw1.cell (p := ⟨w.heap.size + 1 + 1, 0, none⟩) lP).trans p0
  have p1 := (hbw1.cell (p := ⟨w.heap.size + 1 + 1, 1, none⟩) lP).trans p1
  have lS := Nat.lt_of_lt_of_le lS hbw1.size
  have lC := Nat.lt_of_lt_of_le lC hbw1.size
  have lP := Nat.lt_of_lt_of_le lP hbw1.size
  clear hww1 hbw1
  cases x0
  · go_wp2_with fail
    go_ret
    exact ⟨ret_bool (by rw [HF4.out]; simp), HBX1.out⟩
  go_wp2_with fail
  refine (stHolds_any 0 ((n2 : Int) - 1) c.own _).mono ?_
  rw [HX1.out]
  rintro e w2 ⟨rfl, hww2⟩
  have hbw2 : Below w1.heap.size w1 w2 := by rw [hww2]; exact (Below.refl _ _).alloc (Nat.le_refl _) _
  have HBX2 := Lib.hid (below_then HBX1.out hbw2)
  have s0 := (hbw2.cell (p := ⟨w.heap.size, 0, none⟩) lS).trans s0
  have s1 := (hbw2.cell (p := ⟨w.heap.size, 1, none⟩) lS).trans s1
  have h0 := (hbw2.cell (p := ⟨w.heap.size + 1, 0, none⟩) lC).trans h0
  have h1 := (hbw2.cell (p := ⟨w.heap.size + 1, 1, none⟩) lC).trans h1
  have h2 := (hbw2.cell (p := ⟨w.heap.size + 1, 2, none⟩) lC).trans h2
  have h3 := (hbw2.cell (p := ⟨w.heap.size + 1, 3, none⟩) lC).trans h3
  have h4 := (hbw2.cell (p := ⟨w.heap.size + 1, 4, none⟩) lC).trans h4
  have h5 := (hbw2.cell (p := ⟨w.heap.size + 1, 5, none⟩) lC).trans h5
  have h6 := (hbw2.cell (p := ⟨w.heap.size + 1, 6, none⟩) lC).trans h6
  have h7 := (hbw2.cell (p := ⟨w.heap.size + 1, 7, none⟩) lC).trans h7
  have p0 := (hbw2.cell (p := ⟨w.heap.size + 1 + 1, 0, none⟩) lP).trans p0
  have p1 := (hbw2.cell (p := ⟨w.heap.size + 1 + 1, 1, none⟩) lP).trans p1
  have lS := Nat.lt_of_lt_of_le lS hbw2.size
  have lC := Nat.lt_of_lt_of_le lC hbw2.size
  have lP := Nat.lt_of_lt_of_le lP hbw2.size
  clear hww2 hbw2
  cases x1
  · go_wp2_with fail
    go_ret
    exact ⟨ret_bool (by rw [HF4.out]; simp), HBX2.out⟩
  go_wp2_with fail
  refine (stHolds_any 1 7 c.ph _).mono ?_
  rw [HX2.out]
  rintro e w3 ⟨rfl, hww3⟩
  have hbw3 : Below w2.heap.size w2 w3 := by rw [hww3]; exact (Below.refl _ _).alloc (Nat.le_refl _) _
  have HBX3 := Lib.hid (below_then HBX2.out hbw3)
  have s0 := (hbw3.cell (p := ⟨w.heap.size, 0, none⟩) lS).trans s0
  have s1 := (hbw3.cell (p := ⟨w.heap.size, 1, none⟩) lS).trans s1
  have h0 := (hbw3.cell (p := ⟨w.heap.size + 1, 0, none⟩) lC).trans h0
  have h1 := (hbw3.cell (p := ⟨w.heap.size + 1, 1, none⟩) lC).trans h1
  have h2 := (hbw3.cell (p := ⟨w.heap.size + 1, 2, none⟩) lC).trans h2
  have h3 := (hbw3.cell (p := ⟨w.heap.size + 1, 3, none⟩) lC).trans h3
  have h4 := (hbw3.cell (p := ⟨w.heap.size + 1, 4, none⟩) lC).trans h4
  have h5 := (hbw3.cell (p := ⟨w.heap.size + 1, 5, none⟩) lC).trans h5
  have h6 := (hbw3.cell (p := ⟨w.heap.size + 1, 6, none⟩) lC).trans h6
  have h7 := (hbw3.cell (p := ⟨w.heap.size + 1, 7, none⟩) lC).trans h7
  have p0 := (hbw3.cell (p := ⟨w.heap.size + 1 + 1, 0, none⟩) lP).trans p0
  have p1 := (hbw3.cell (p := ⟨w.heap.size + 1 + 1, 1, none⟩) lP).trans p1
  have lS := Nat.lt_of_lt_of_le lS hbw3.size
  have lC := Nat.lt_of_lt_of_le lC hbw3.size
  have lP := Nat.lt_of_lt_of_le lP hbw3.size
  clear hww3 hbw3
  cases x2
  · go_wp2_with fail
    go_ret
    exact ⟨ret_bool (by rw [HF4.out]; simp), HBX3.out⟩
  go_wp2_with fail
  refine (stHolds_any 1 80 c.mn _).mono ?_
  rw [HX3.out]
  rintro e w4 ⟨rfl, hww4⟩
  have hbw4 : Below w3.heap.size w3 w4 := by rw [hww4]; exact (Below.refl _ _).alloc (Nat.le_refl _) _
  have HBX4 := Lib.hid (below_then HBX3.out hbw4)
  have s0 := (hbw4.cell (p := ⟨w.heap.size, 0, none⟩) lS).trans s0
  have s1 := (hbw4.cell (p := ⟨w.heap.size, 1, none⟩) lS).trans s1
  have h0 := (hbw4.cell (p := ⟨w.heap.size + 1, 0, none⟩) lC).trans h0
  have h1 := (hbw4.cell (p := ⟨w.heap.size + 1, 1, none⟩) lC).trans h1
  have h2 := (hbw4.cell (p := ⟨w.heap.size + 1, 2, none⟩) lC).trans h2
  have h3 := (hbw4.cell (p := ⟨w.heap.size + 1, 3, none⟩) lC).trans h3
  have h4 := (hbw4.cell (p := ⟨w.heap.size + 1, 4, none⟩) lC).trans h4
  have h5 := (hbw4.cell (p := ⟨w.heap.size + 1, 5, none⟩) lC).trans h5
  have h6 := (hbw4.cell (p := ⟨w.heap.size + 1, 6, none⟩) lC).trans h6
  have h7 := (hbw4.cell (p := ⟨w.heap.size + 1, 7, none⟩) lC).trans h7
  have p0 := (hbw4.cell (p := ⟨w.heap.size + 1 + 1, 0, none⟩) lP).trans p0
  have p1 := (hbw4.cell (p := ⟨w.heap.size + 1 + 1, 1, none⟩) lP).trans p1
  have lS := Nat.lt_of_lt_of_le lS hbw4.size
  have lC := Nat.lt_of_lt_of_le lC hbw4.size
  have lP := Nat.lt_of_lt_of_le lP hbw4.size
  clear hww4 hbw4
  cases x3
  · go_wp2_with fail
    go_ret
    exact ⟨ret_bool (by rw [HF4.out]; simp), HBX4.out⟩
  go_wp2_with fail
  refine (stHolds_any 1 80 c.mx _).mono ?_
  rw [HX4.out]
  rintro e w5 ⟨rfl, hww5⟩
  have hbw5 : Below w4.heap.size w4 w5 := by rw [hww5]; exact (Below.refl _ _).alloc (Nat.le_refl _) _
  have HBX5 := Lib.hid (below_then HBX4.out hbw5)
  have s0 := (hbw5.cell (p := ⟨w.heap.size, 0, none⟩) lS).trans s0
  have s1 := (hbw5.cell (p := ⟨w.heap.size, 1, none⟩) lS).trans s1
  have h0 := (hbw5.cell (p := ⟨w.heap.size + 1, 0, none⟩) lC).trans h0
  have h1 := (hbw5.cell (p := ⟨w.heap.size + 1, 1, none⟩) lC).trans h1
  have h2 := (hbw5.cell (p := ⟨w.heap.size + 1, 2, none⟩) lC).trans h2
  have h3 := (hbw5.cell (p := ⟨w.heap.size + 1, 3, none⟩) lC).trans h3
  have h4 := (hbw5.cell (p := ⟨w.heap.size + 1, 4, none⟩) lC).trans h4
  have h5 := (hbw5.cell (p := ⟨w.heap.size + 1, 5, none⟩) lC).trans h5
  have h6 := (hbw5.cell (p := ⟨w.heap.size + 1, 6, none⟩) lC).trans h6
  have h7 := (hbw5.cell (p := ⟨w.heap.size + 1, 7, none⟩) lC).trans h7
  have p0 := (hbw5.cell (p := ⟨w.heap.size + 1 + 1, 0, none⟩) lP).trans p0
  have p1 := (hbw5.cell (p := ⟨w.heap.size + 1 + 1, 1, none⟩) lP).trans p1
  have lS := Nat.lt_of_lt_of_le lS hbw5.size
  have lC := Nat.lt_of_lt_of_le lC hbw5.size
  have lP := Nat.lt_of_lt_of_le lP hbw5.size
  clear hww5 hbw5
  cases x4
  · go_wp2_with fail
    go_ret
    exact ⟨ret_bool (by rw [HF4.out]; simp), HBX5.out⟩
  go_wp2_with fail
  refine (stHolds_any 1 80 c.step _).mono ?_
  rw [HX5.out]
  rintro e w6 ⟨rfl, hww6⟩
  have hbw6 : Below w5.heap.size w5 w6 := by rw [hww6]; exact (Below.refl _ _).alloc (Nat.le_refl _) _
  have HBX6 := Lib.hid (below_then HBX5.out hbw6)
  have s0 := (hbw6.cell (p := ⟨w.heap.size, 0, none⟩) lS).trans s0
  have s1 := (hbw6.cell (p := ⟨w.heap.size, 1, none⟩) lS).trans s1
  have h0 := (hbw6.cell (p := ⟨w.heap.size + 1, 0, none⟩) lC).trans h0
  have h1 := (hbw6.cell (p := ⟨w.heap.size + 1, 1, none⟩) lC).trans h1
  have h2 := (hbw6.cell (p := ⟨w.heap.size + 1, 2, none⟩) lC).trans h2
  have h3 := (hbw6.cell (p := ⟨w.heap.size + 1, 3, none⟩) lC).trans h3
  have h4 := (hbw6.cell (p := ⟨w.heap.size + 1, 4, none⟩) lC).trans h4
  have h5 := (hbw6.cell (p := ⟨w.heap.size + 1, 5, none⟩) lC).trans h5
  have h6 := (hbw6.cell (p := ⟨w.heap.size + 1, 6, none⟩) lC).trans h6
  have h7 := (hbw6.cell (p := ⟨w.heap.size + 1, 7, none⟩) lC).trans h7
  have p0 := (hbw6.cell (p := ⟨w.heap.size + 1 + 1, 0, none⟩) lP).trans p0
  have p1 := (hbw6.cell (p := ⟨w.heap.size + 1 + 1, 1, none⟩) lP).trans p1
  have lS := Nat.lt_of_lt_of_le lS hbw6.size
  have lC := Nat.lt_of_lt_of_le lC hbw6.size
  have lP := Nat.lt_of_lt_of_le lP hbw6.size
  clear hww6 hbw6
  cases x5
  · go_wp2_with fail
    go_ret
    exact ⟨ret_bool (by rw [HF4.out]; simp), HBX6.out⟩
  go_wp2_with fail
  refine (stHolds_any 0 80 c.fb _).mono ?_
  rw [HX6.out]
  rintro e w7 ⟨rfl, hww7⟩
  have hbw7 : Below w6.heap.size w6 w7 := by rw [hww7]; exact (Below.refl _ _).alloc (Nat.le_refl _) _
  have HBX7 := Lib.hid (below_then HBX6.out hbw7)
  have s0 := (hbw7.cell (p := ⟨w.heap.size, 0, none⟩) lS).trans s0
  have s1 := (hbw7.cell (p := ⟨w.heap.size, 1, none⟩) lS).trans s1
  have h0 := (hbw7.cell (p := ⟨w.heap.size + 1, 0, none⟩) lC).trans h0
  have h1 := (hbw7.cell (p := ⟨w.heap.size + 1, 1, none⟩) lC).trans h1
  have h2 := (hbw7.cell (p := ⟨w.heap.size + 1, 2, none⟩) lC).trans h2
  have h3 := (hbw7.cell (p := ⟨w.heap.size + 1, 3, none⟩) lC).trans h3
  have h4 := (hbw7.cell (p := ⟨w.heap.size + 1, 4, none⟩) lC).trans h4
  have h5 := (hbw7.cell (p := ⟨w.heap.size + 1, 5, none⟩) lC).trans h5
  have h6 := (hbw7.cell (p := ⟨w.heap.size + 1, 6, none⟩) lC).trans h6
  have h7 := (hbw7.cell (p := ⟨w.heap.size + 1, 7, none⟩) lC).trans h7
  have p0 := (hbw7.cell (p := ⟨w.heap.size + 1 + 1, 0, none⟩) lP).trans p0
  have p1 := (hbw7.cell (p := ⟨w.heap.size + 1 + 1, 1, none⟩) lP).trans p1
  have lS := Nat.lt_of_lt_of_le lS hbw7.size
  have lC := Nat.lt_of_lt_of_le lC hbw7.size
  have lP := Nat.lt_of_lt_of_le lP hbw7.size
  clear hww7 hbw7
  cases x6
  · go_wp2_with fail
    go_ret
    exact ⟨ret_bool (by rw [HF4.out]; simp), HBX7.out⟩
  go_wp2_with fail
  refine (stAmps_any c _).mono ?_
  rw [HXA.out]
  rintro e w8 ⟨rfl, hw8⟩
  have HB8 : Hid (Below w.heap.size w w8) := Lib.hid (by rw [hw8]; exact HBX7.out.alloc HBX7.out.size _)
  clear hw8
  go_wp2_with fail
  go_ret
  exact ⟨ret_bool (by rw [HF4.out]; simp), HB8.out⟩
end Go.Proofs.Ytjlfnhfiiailgaa
