/-
The walk of the law MoneyStarted.
-/
import Derived.Test.YtahpoikbnjhkgaaMoneyF
namespace Go.Proofs.Ytahpoikbnjhkgaa
open Go.RowKit
set_option linter.unusedVariables false

theorem start_cases (p q r : Int) : (startE p q r ≠ 0 ∧ startV p q r = 0) ∨ (startE p q r = 0 ∧ tOk p q r = true ∧ startV p q r = startN p q r ∧ 0 ≤ startN p q r ∧ startN p q r ≤ 1000000000) := by
  unfold startE startV fitE fitV
  cases h : tOk p q r with
  | false => left; simp
  | true =>
    cases hv : inB (startN p q r) 0 1000000000 with
    | true => right; have := inB_of hv; simp [this]
    | false => left; simp
theorem start_ok {p q r : Int} (h : tOk p q r = true) (h0 : 0 ≤ startN p q r) (h1 : startN p q r ≤ 1000000000) : startE p q r = 0 ∧ startV p q r = startN p q r := by
  unfold startE startV fitE fitV
  rw [h, inB_true h0 h1]
  exact ⟨rfl, rfl⟩
theorem tOk_mk {p q r : Int} (h0 : 0 ≤ p) (h1 : p ≤ 1000000000) (h2 : 0 ≤ q) (h3 : q ≤ 1000000000) (h4 : 1 ≤ r) (h5 : r ≤ 1000000000) : tOk p q r = true := by
  unfold tOk; rw [inB_true h0 h1, inB_true h2 h3, inB_true h4 h5]; rfl
/-- Units that are begun. -/
theorem ceil_bd {a u : Int} (hu : 1 ≤ u) : a ≤ u * ((a + u - 1) / u) ∧ u * ((a + u - 1) / u) ≤ a + u - 1 := by
  have e := Int.mul_ediv_add_emod (a + u - 1) u
  have m0 := Int.emod_nonneg (a + u - 1) (b := u) (by omega)
  have m1 := Int.emod_lt_of_pos (a + u - 1) (b := u) (by omega)
  omega
theorem ceil_two {a b u : Int} (hu : 1 ≤ u) : (a + b + u - 1) / u ≤ (a + u - 1) / u + (b + u - 1) / u ∧ (a + u - 1) / u + (b + u - 1) / u ≤ (a + b + u - 1) / u + 1 := by
  have h1 := ceil_bd (a := a) hu
  have h2 := ceil_bd (a := b) hu
  have h3 := ceil_bd (a := a + b) hu
  generalize (a + u - 1) / u = x at *
  generalize (b + u - 1) / u = y at *
  generalize (a + b + u - 1) / u = z at *
  constructor
  · rcases Int.lt_or_le (x + y) z with h | h
    · have : u * (x + y + 1) ≤ u * z := Int.mul_le_mul_of_nonneg_left h (by omega)
      rw [Int.mul_add, Int.mul_add, Int.mul_one] at this
      omega
    · exact h
  · rcases Int.lt_or_le (z + 1) (x + y) with h | h
    · have : u * (z + 1 + 1) ≤ u * (x + y) := Int.mul_le_mul_of_nonneg_left h (by omega)
      rw [Int.mul_add, Int.mul_add, Int.mul_one, Int.mul_add] at this
      omega
    · exact h
theorem ceil_whole {a u : Int} (hu : 1 ≤ u) : (a * u + u - 1) / u = a := by
  have h := ceil_bd (a := a * u) hu
  generalize (a * u + u - 1) / u = z at *
  rw [Int.mul_comm a u] at h
  rcases Int.lt_trichotomy z a with c | c | c
  · have : u * (z + 1) ≤ u * a := Int.mul_le_mul_of_nonneg_left c (by omega)
    rw [Int.mul_add] at this
    omega
  · exact c
  · have : u * (a + 1) ≤ u * z := Int.mul_le_mul_of_nonneg_left c (by omega)
    rw [Int.mul_add] at this
    omega
theorem start_two {p a b u x y z : Int} (hp : 0 ≤ p) (hu : 1 ≤ u) (hx : x = startN p a u) (hy : y = startN p b u) (hz : z = startN p (a + b) u) : z ≤ x + y ∧ x + y ≤ z + p := by
  have h := ceil_two (a := a) (b := b) hu
  unfold startN at hx hy hz
  subst hx hy hz
  rw [← Int.mul_add]
  have h1 := Int.mul_le_mul_of_nonneg_left h.1 hp
  have h2 := Int.mul_le_mul_of_nonneg_left h.2 hp
  rw [Int.mul_add p _ 1, Int.mul_one] at h2
  exact ⟨h1, h2⟩
set_option maxHeartbeats 2000000 in
theorem walk_MoneyStarted (p : Int) (hp : (Lit.int .i64 p).wf = true) (a : Int) (ha : (Lit.int .i64 a).wf = true) (b : Int) (hb0 : (Lit.int .i64 b).wf = true) (u : Int) (hu : (Lit.int .i64 u).wf = true) (w : World) :
    Calls Try.prog 6 #[.int .i64 p, .int .i64 a, .int .i64 b, .int .i64 u] w (TruePost w) := by
  obtain ⟨bl, bh⟩ := wf_bd hb0
  clear hp ha hb0 hu
  by_cases c0 : 1000000000 < a
  · go_enter Try.func6, Try.ntmps6
    go_wp2_with fail
    refine (lmHead_any _).mono ?_
    rintro e w1 ⟨rfl, hb⟩
    have B1 := Lib.hid (hb)
    clear hb
    go_wp2
    go_ret
    exact ⟨rfl, B1.out⟩
  by_cases c1 : 1000000000 < b
  · go_enter Try.func6, Try.ntmps6
    go_wp2_with fail
    refine (lmHead_any _).mono ?_
    rintro e w1 ⟨rfl, hb⟩
    have B1 := Lib.hid (hb)
    clear hb
    go_wp2
    go_ret
    exact ⟨rfl, B1.out⟩
  by_cases c2 : p < 0
  · go_enter Try.func6, Try.ntmps6
    go_wp2_with fail
    refine (lmHead_any _).mono ?_
    rintro e w1 ⟨rfl, hb⟩
    have B1 := Lib.hid (hb)
    clear hb
    go_wp2
    go_ret
    exact ⟨rfl, B1.out⟩
  by_cases c3 : 1000000 < p
  · go_enter Try.func6, Try.ntmps6
    go_wp2_with fail
    refine (lmHead_any _).mono ?_
    rintro e w1 ⟨rfl, hb⟩
    have B1 := Lib.hid (hb)
    clear hb
    go_wp2
    go_ret
    exact ⟨rfl, B1.out⟩
  by_cases c4 : u < 1
  · go_enter Try.func6, Try.ntmps6
    go_wp2_with fail
    refine (lmHead_any _).mono ?_
    rintro e w1 ⟨rfl, hb⟩
    have B1 := Lib.hid (hb)
    clear hb
    go_wp2
    go_ret
    exact ⟨rfl, B1.out⟩
  by_cases c5 : 1000 < u
  · go_enter Try.func6, Try.ntmps6
    go_wp2_with fail
    refine (lmHead_any _).mono ?_
    rintro e w1 ⟨rfl, hb⟩
    have B1 := Lib.hid (hb)
    clear hb
    go_wp2
    go_ret
    exact ⟨rfl, B1.out⟩
  by_cases c6 : a < 0
  · go_enter Try.func6, Try.ntmps6
    go_wp2_with fail
    refine (lmHead_any _).mono ?_
    rintro e w1 ⟨rfl, hb⟩
    have B1 := Lib.hid (hb)
    clear hb
    go_wp2
    go_ret
    exact ⟨rfl, B1.out⟩
  by_cases c7 : 500 < a
  · go_enter Try.func6, Try.ntmps6
    go_wp2_with fail
    refine (lmHead_any _).mono ?_
    rintro e w1 ⟨rfl, hb⟩
    have B1 := Lib.hid (hb)
    clear hb
    go_wp2
    go_ret
    exact ⟨rfl, B1.out⟩
  have t1 : tOk p a u = true := tOk_mk (by omega) (by omega) (by omega) (by omega) (by omega) (by omega)
  have au0 : 0 ≤ a * u := Int.mul_nonneg (by omega) (by omega)
  have au1 : a * u ≤ 500 * 1000 := Int.mul_le_mul (by omega) (by omega) (by omega) (by omega)
  have ap0 : 0 ≤ a * p := Int.mul_nonneg (by omega) (by omega)
  have ap1 : a * p ≤ 500 * 1000000 := Int.mul_le_mul (by omega) (by omega) (by omega) (by omega)
  have t2 : tOk p (a * u) u = true := tOk_mk (by omega) (by omega) (by omega) (by omega) (by omega) (by omega)
  have hw : startN p (a * u) u = a * p := by unfold startN; rw [ceil_whole (by omega), Int.mul_comm]
  have hca : 0 ≤ (a + u - 1) / u := Int.ediv_nonneg (by omega) (by omega)
  have hca2 : (a + u - 1) / u ≤ 500 := by
    have := (ceil_bd (a := a) (u := u) (by omega)).2
    rcases Int.lt_or_le 500 ((a + u - 1) / u) with h | h
    · have : u * 501 ≤ u * ((a + u - 1) / u) := Int.mul_le_mul_of_nonneg_left h (by omega)
      omega
    · exact h
  have hx0 : 0 ≤ startN p a u := Int.mul_nonneg (by omega) hca
  have hx1 : startN p a u ≤ 1000000 * 500 := Int.mul_le_mul (by omega) hca2 hca (by omega)
  obtain ⟨e1, v1⟩ := start_ok t1 hx0 (by omega)
  obtain ⟨e2, v2⟩ := start_ok t2 (by omega) (by omega)
  rw [hw] at v2
  rw [← v1] at hx0 hx1
  have HE1 := Lib.hid e1
  have HE2 := Lib.hid e2
  have HV1 := Lib.hid v1
  have HV2 := Lib.hid v2
  clear e1 e2 v1 v2 t1 t2 hw hca hca2
  rcases start_cases p b u with ⟨he, hv⟩ | ⟨he, ht, hv, v0, v1⟩
  · have HE : Hid ((startE p b u != 0) = true) := Lib.hid (by rw [bne_iff_ne]; exact he)
    clear he hv
    go_enter Try.func6, Try.ntmps6
    go_wp2_with fail
    refine (lmHead_any _).mono ?_
    rintro e w1 ⟨rfl, hb⟩
    have B1 := Lib.hid (hb)
    clear hb
    go_wp2_with fail
    refine (mStarted_any _ _ _ _).mono ?_
    rintro e w2 ⟨rfl, hb⟩
    have B2 := Lib.hid (below_then B1.out hb)
    clear hb B1
    go_wp2_with fail
    refine (mStarted_any _ _ _ _).mono ?_
    rintro e w3 ⟨rfl, hb⟩
    have B3 := Lib.hid (below_then B2.out hb)
    clear hb B2
    go_wp2_with fail
    refine (mStarted_any _ _ _ _).mono ?_
    rintro e w4 ⟨rfl, hb⟩
    have B4 := Lib.hid (below_then B3.out hb)
    clear hb B3
    go_wp2_with fail
    refine (mStarted_any _ _ _ _).mono ?_
    rintro e w5 ⟨rfl, hb⟩
    have B5 := Lib.hid (below_then B4.out hb)
    clear hb B4
    have hne := HE.out
    rw [HE1.out, HE2.out, HV2.out]
    generalize startE p b u = k at hne ⊢
    have eqq : (a * p == a * p) = true := by simp
    go_wp2
    go_ret
    exact ⟨rfl, B5.out⟩
  have HE : Hid (startE p b u = 0) := Lib.hid he
  rcases start_cases p (a + b) u with ⟨he3, hv3⟩ | ⟨he3, ht3, hv3, v03, v13⟩
  · have HE3 : Hid ((startE p (a + b) u != 0) = true) := Lib.hid (by rw [bne_iff_ne]; exact he3)
    clear he3 hv3 he hv ht v0 v1
    go_enter Try.func6, Try.ntmps6
    go_wp2_with fail
    refine (lmHead_any _).mono ?_
    rintro e w1 ⟨rfl, hb⟩
    have B1 := Lib.hid (hb)
    clear hb
    go_wp2_with fail
    refine (mStarted_any _ _ _ _).mono ?_
    rintro e w2 ⟨rfl, hb⟩
    have B2 := Lib.hid (below_then B1.out hb)
    clear hb B1
    go_wp2_with fail
    refine (mStarted_any _ _ _ _).mono ?_
    rintro e w3 ⟨rfl, hb⟩
    have B3 := Lib.hid (below_then B2.out hb)
    clear hb B2
    go_wp2_with fail
    refine (mStarted_any _ _ _ _).mono ?_
    rintro e w4 ⟨rfl, hb⟩
    have B4 := Lib.hid (below_then B3.out hb)
    clear hb B3
    go_wp2_with fail
    refine (mStarted_any _ _ _ _).mono ?_
    rintro e w5 ⟨rfl, hb⟩
    have B5 := Lib.hid (below_then B4.out hb)
    clear hb B4
    have hne := HE3.out
    rw [HE1.out, HE2.out, HV2.out, HE.out]
    generalize startE p (a + b) u = k at hne ⊢
    have eqq : (a * p == a * p) = true := by simp
    go_wp2
    go_ret
    exact ⟨rfl, B5.out⟩
  · obtain ⟨d1, d2⟩ := start_two (by omega) (by omega) HV1.out hv hv3
    rw [← hv] at v0 v1
    rw [← hv3] at v03 v13
    have HE3 : Hid (startE p (a + b) u = 0) := Lib.hid he3
    clear he3 he ht ht3 hv hv3
    go_enter Try.func6, Try.ntmps6
    go_wp2_with fail
    refine (lmHead_any _).mono ?_
    rintro e w1 ⟨rfl, hb⟩
    have B1 := Lib.hid (hb)
    clear hb
    go_wp2_with fail
    refine (mStarted_any _ _ _ _).mono ?_
    rintro e w2 ⟨rfl, hb⟩
    have B2 := Lib.hid (below_then B1.out hb)
    clear hb B1
    go_wp2_with fail
    refine (mStarted_any _ _ _ _).mono ?_
    rintro e w3 ⟨rfl, hb⟩
    have B3 := Lib.hid (below_then B2.out hb)
    clear hb B2
    go_wp2_with fail
    refine (mStarted_any _ _ _ _).mono ?_
    rintro e w4 ⟨rfl, hb⟩
    have B4 := Lib.hid (below_then B3.out hb)
    clear hb B3
    go_wp2_with fail
    refine (mStarted_any _ _ _ _).mono ?_
    rintro e w5 ⟨rfl, hb⟩
    have B5 := Lib.hid (below_then B4.out hb)
    clear hb B4
    rw [HE1.out, HE2.out, HV2.out, HE.out, HE3.out]
    generalize startV p a u = x at *
    generalize startV p b u = y at *
    generalize startV p (a + b) u = z at *
    have eqq : (a * p == a * p) = true := by simp
    go_wp2
    go_ret
    exact ⟨rfl, B5.out⟩
end Go.Proofs.Ytahpoikbnjhkgaa
