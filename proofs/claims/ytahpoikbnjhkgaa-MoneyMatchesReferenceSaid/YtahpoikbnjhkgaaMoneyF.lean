/-
The walks of the laws on Times, Started and Tax alone: MoneyRounds, MoneyParts, MoneyStarted.
-/
import Derived.Test.YtahpoikbnjhkgaaMoneyE
namespace Go.Proofs.Ytahpoikbnjhkgaa
open Go.RowKit
set_option linter.unusedVariables false

/-- A law's walk: it answers true and changes nothing that was there. -/
def TruePost (w : World) (e : Ending) (w' : World) : Prop := e = .returned (.bool true) ∧ Below w.heap.size w w'
theorem wf_bd {x : Int} (h : (Lit.int .i64 x).wf = true) : -9223372036854775808 ≤ x ∧ x ≤ 9223372036854775807 := by
  simp [Lit.wf, IntKind.min, IntKind.max, IntKind.signed, IntKind.bits] at h
  omega

theorem times_cases (p q r : Int) : (timesE p q r ≠ 0 ∧ timesV p q r = 0) ∨ (timesE p q r = 0 ∧ tOk p q r = true ∧ timesV p q r = halfV (p * q) r ∧ 0 ≤ halfV (p * q) r ∧ halfV (p * q) r ≤ 1000000000) := by
  unfold timesE timesV fitE fitV
  cases h : tOk p q r with
  | false => left; simp
  | true =>
    cases hv : inB (halfV (p * q) r) 0 1000000000 with
    | true => right; have := inB_of hv; simp [this]
    | false => left; simp
theorem tOk_of {p q r : Int} (h : tOk p q r = true) : 0 ≤ p ∧ p ≤ 1000000000 ∧ 0 ≤ q ∧ q ≤ 1000000000 ∧ 1 ≤ r ∧ r ≤ 1000000000 := by
  unfold tOk at h
  rw [Bool.and_eq_true_iff, Bool.and_eq_true_iff] at h
  have a := inB_of h.1.1
  have b := inB_of h.1.2
  have c := inB_of h.2
  omega
/-- Rounding half up. -/
theorem half_bd {n r : Int} (hr : 1 ≤ r) : -r < 2 * (halfV n r * r - n) ∧ 2 * (halfV n r * r - n) ≤ r := by
  unfold halfV
  have e := Int.mul_ediv_add_emod (2 * n + r) (2 * r)
  have m0 := Int.emod_nonneg (2 * n + r) (b := 2 * r) (by omega)
  have m1 := Int.emod_lt_of_pos (2 * n + r) (b := 2 * r) (by omega)
  generalize (2 * n + r) / (2 * r) = d at *
  generalize (2 * n + r) % (2 * r) = m at *
  have e2 : 2 * r * d = 2 * (d * r) := by rw [Int.mul_assoc, Int.mul_comm r d]
  omega
theorem tax_times {p q : Int} (hq : q ≤ 100000) : taxV p q = timesV p q 10000 ∧ taxE p q = timesE p q 10000 := by
  have h : xOk p q = tOk p q 10000 := by
    unfold xOk tOk
    have h3 : inB (10000 : Int) 1 1000000000 = true := by decide
    rw [h3, Bool.and_true]
    have : inB q 0 100000 = inB q 0 1000000000 := by unfold inB; congr 1; simp only [eq_iff_iff]; omega
    rw [this]
  unfold taxV taxE timesV timesE
  rw [h]
  exact ⟨rfl, rfl⟩
set_option maxHeartbeats 1000000 in
theorem walk_MoneyRounds (p : Int) (hp : (Lit.int .i64 p).wf = true) (q : Int) (hq : (Lit.int .i64 q).wf = true) (r : Int) (hr : (Lit.int .i64 r).wf = true) (w : World) :
    Calls Try.prog 4 #[.int .i64 p, .int .i64 q, .int .i64 r] w (TruePost w) := by
  rcases times_cases p q r with ⟨he, hv⟩ | ⟨he, ht, hv, v0, v1⟩
  · have HE : Hid (timesE p q r ≠ 0) := Lib.hid he
    have HV := Lib.hid hv
    clear he hv
    go_enter Try.func4, Try.ntmps4
    go_wp2_with fail
    refine (lmHead_any _).mono ?_
    rintro e w1 ⟨rfl, hb⟩
    have B1 := Lib.hid hb
    clear hb
    go_wp2_with fail
    refine (mTimes_any _ _ _ _).mono ?_
    rintro e w2 ⟨rfl, hb⟩
    have B2 := Lib.hid (below_then B1.out hb)
    clear hb B1
    rw [HV.out]
    have hne : (timesE p q r != 0) = true := by rw [bne_iff_ne]; exact HE.out
    generalize timesE p q r = k at hne ⊢
    go_wp2
    go_ret
    exact ⟨rfl, B2.out⟩
  · obtain ⟨p0, p1, q0, q1, r0, r1⟩ := tOk_of ht
    obtain ⟨m0, m1⟩ := mul_bd p0 p1 q0 q1
    obtain ⟨n0, n1⟩ := mul_bd v0 v1 (by omega : 0 ≤ r) r1
    obtain ⟨b0, b1⟩ := half_bd (n := p * q) r0
    rw [← hv] at v0 v1 n0 n1 b0 b1
    have HE := Lib.hid he
    clear he hv ht
    obtain ⟨v, hv⟩ : ∃ v, v = timesV p q r := ⟨_, rfl⟩
    rw [← hv] at v0 v1 n0 n1 b0 b1
    have HV := Lib.hid hv
    clear hv
    have HX : Hid (q ≤ 100000 → taxV p q = timesV p q 10000 ∧ taxE p q = timesE p q 10000) := Lib.hid tax_times
    go_enter Try.func4, Try.ntmps4
    go_wp2_with fail
    refine (lmHead_any _).mono ?_
    rintro e w1 ⟨rfl, hb⟩
    have B1 := Lib.hid hb
    clear hb
    go_wp2_with fail
    refine (mTimes_any _ _ _ _).mono ?_
    rintro e w2 ⟨rfl, hb⟩
    have B2 := Lib.hid (below_then B1.out hb)
    clear hb B1
    rw [HE.out, ← HV.out]
    go_wp2_with fail
    refine (mTax_any _ _ _).mono ?_
    rintro e w3 ⟨rfl, hb⟩
    have B3 := Lib.hid (below_then B2.out hb)
    clear hb B2
    go_wp2_with fail
    refine (mTimes_any _ _ _ _).mono ?_
    rintro e w4 ⟨rfl, hb⟩
    have B4 := Lib.hid (below_then B3.out hb)
    clear hb B3
    by_cases hl : 100000 < q
    · generalize taxV p q = t1
      generalize taxE p q = t2
      generalize timesV p q 10000 = t3
      generalize timesE p q 10000 = t4
      go_wp2
      go_ret
      exact ⟨rfl, B4.out⟩
    · obtain ⟨x1, x2⟩ := HX.out (by omega)
      rw [x1, x2]
      clear x1 x2
      generalize timesV p q 10000 = t3
      generalize timesE p q 10000 = t4
      have e3 : (t3 == t3) = true := by simp
      have e4 : (t4 == t4) = true := by simp
      go_wp2
      go_ret
      exact ⟨rfl, B4.out⟩
theorem three_halves {p a b r x y z : Int} (hr : 1 ≤ r) (hx : x = halfV (p * a) r) (hy : y = halfV (p * b) r) (hz : z = halfV (p * (a + b)) r) : x + y - z ≤ 1 ∧ z - x - y ≤ 1 := by
  have h1 := half_bd (n := p * a) hr
  have h2 := half_bd (n := p * b) hr
  have h3 := half_bd (n := p * (a + b)) hr
  rw [← hx] at h1
  rw [← hy] at h2
  rw [← hz, Int.mul_add] at h3
  have e : (x + y - z) * r = x * r + y * r - z * r := by rw [Int.sub_mul, Int.add_mul]
  constructor
  · rcases Int.lt_or_le 1 (x + y - z) with h | h
    · have : 2 * r ≤ (x + y - z) * r := Int.mul_le_mul_of_nonneg_right h (by omega)
      omega
    · exact h
  · rcases Int.lt_or_le 1 (z - x - y) with h | h
    · have h' : (x + y - z) ≤ -2 := by omega
      have : (x + y - z) * r ≤ -2 * r := Int.mul_le_mul_of_nonneg_right h' (by omega)
      omega
    · omega
set_option maxHeartbeats 2000000 in
theorem walk_MoneyParts (p : Int) (hp : (Lit.int .i64 p).wf = true) (a : Int) (ha : (Lit.int .i64 a).wf = true) (b : Int) (hb0 : (Lit.int .i64 b).wf = true) (r : Int) (hr : (Lit.int .i64 r).wf = true) (w : World) :
    Calls Try.prog 5 #[.int .i64 p, .int .i64 a, .int .i64 b, .int .i64 r] w (TruePost w) := by
  by_cases hba : 1000000000 < a
  · go_enter Try.func5, Try.ntmps5
    go_wp2_with fail
    refine (lmHead_any _).mono ?_
    rintro e w1 ⟨rfl, hb⟩
    have B1 := Lib.hid (hb)
    clear hb
    go_wp2
    go_ret
    exact ⟨rfl, B1.out⟩
  by_cases hbb : 1000000000 < b
  · go_enter Try.func5, Try.ntmps5
    go_wp2_with fail
    refine (lmHead_any _).mono ?_
    rintro e w1 ⟨rfl, hb⟩
    have B1 := Lib.hid (hb)
    clear hb
    go_wp2
    go_ret
    exact ⟨rfl, B1.out⟩
  rcases times_cases p a r with ⟨he, hv⟩ | ⟨he, ht, hv, v0, v1⟩
  · have HE : Hid ((timesE p a r != 0) = true) := Lib.hid (by rw [bne_iff_ne]; exact he)
    clear he hv
    go_enter Try.func5, Try.ntmps5
    go_wp2_with fail
    refine (lmHead_any _).mono ?_
    rintro e w1 ⟨rfl, hb⟩
    have B1 := Lib.hid (hb)
    clear hb
    go_wp2_with fail
    refine (mTimes_any _ _ _ _).mono ?_
    rintro e w2 ⟨rfl, hb⟩
    have B2 := Lib.hid (below_then B1.out hb)
    clear hb B1
    go_wp2_with fail
    refine (mTimes_any _ _ _ _).mono ?_
    rintro e w3 ⟨rfl, hb⟩
    have B3 := Lib.hid (below_then B2.out hb)
    clear hb B2
    go_wp2_with fail
    refine (mTimes_any _ _ _ _).mono ?_
    rintro e w4 ⟨rfl, hb⟩
    have B4 := Lib.hid (below_then B3.out hb)
    clear hb B3
    have hne := HE.out
    generalize timesE p a r = k at hne ⊢
    go_wp2
    go_ret
    exact ⟨rfl, B4.out⟩
  rcases times_cases p b r with ⟨he2, hv2⟩ | ⟨he2, ht2, hv2, v02, v12⟩
  · have HE : Hid (timesE p a r = 0) := Lib.hid he
    have HE2 : Hid ((timesE p b r != 0) = true) := Lib.hid (by rw [bne_iff_ne]; exact he2)
    clear he hv he2 hv2 v0 v1 ht
    go_enter Try.func5, Try.ntmps5
    go_wp2_with fail
    refine (lmHead_any _).mono ?_
    rintro e w1 ⟨rfl, hb⟩
    have B1 := Lib.hid (hb)
    clear hb
    go_wp2_with fail
    refine (mTimes_any _ _ _ _).mono ?_
    rintro e w2 ⟨rfl, hb⟩
    have B2 := Lib.hid (below_then B1.out hb)
    clear hb B1
    go_wp2_with fail
    refine (mTimes_any _ _ _ _).mono ?_
    rintro e w3 ⟨rfl, hb⟩
    have B3 := Lib.hid (below_then B2.out hb)
    clear hb B2
    go_wp2_with fail
    refine (mTimes_any _ _ _ _).mono ?_
    rintro e w4 ⟨rfl, hb⟩
    have B4 := Lib.hid (below_then B3.out hb)
    clear hb B3
    have hne := HE2.out
    rw [HE.out]
    generalize timesE p b r = k at hne ⊢
    go_wp2
    go_ret
    exact ⟨rfl, B4.out⟩
  obtain ⟨p0, p1, q0, q1, r0, r1⟩ := tOk_of ht
  obtain ⟨_, _, s0, s1, _, _⟩ := tOk_of ht2
  have HE : Hid (timesE p a r = 0) := Lib.hid he
  have HE2 : Hid (timesE p b r = 0) := Lib.hid he2
  clear he he2 ht ht2
  rcases times_cases p (a + b) r with ⟨he3, hv3⟩ | ⟨he3, ht3, hv3, v03, v13⟩
  · have HE3 : Hid ((timesE p (a + b) r != 0) = true) := Lib.hid (by rw [bne_iff_ne]; exact he3)
    clear he3 hv3 hv hv2
    go_enter Try.func5, Try.ntmps5
    go_wp2_with fail
    refine (lmHead_any _).mono ?_
    rintro e w1 ⟨rfl, hb⟩
    have B1 := Lib.hid (hb)
    clear hb
    go_wp2_with fail
    refine (mTimes_any _ _ _ _).mono ?_
    rintro e w2 ⟨rfl, hb⟩
    have B2 := Lib.hid (below_then B1.out hb)
    clear hb B1
    go_wp2_with fail
    refine (mTimes_any _ _ _ _).mono ?_
    rintro e w3 ⟨rfl, hb⟩
    have B3 := Lib.hid (below_then B2.out hb)
    clear hb B2
    go_wp2_with fail
    refine (mTimes_any _ _ _ _).mono ?_
    rintro e w4 ⟨rfl, hb⟩
    have B4 := Lib.hid (below_then B3.out hb)
    clear hb B3
    have hne := HE3.out
    rw [HE.out, HE2.out]
    generalize timesE p (a + b) r = k at hne ⊢
    go_wp2
    go_ret
    exact ⟨rfl, B4.out⟩
  · obtain ⟨d1, d2⟩ := three_halves r0 hv hv2 hv3
    rw [← hv] at v0 v1
    rw [← hv2] at v02 v12
    rw [← hv3] at v03 v13
    have HE3 : Hid (timesE p (a + b) r = 0) := Lib.hid he3
    clear he3 ht3 hv hv2 hv3
    go_enter Try.func5, Try.ntmps5
    go_wp2_with fail
    refine (lmHead_any _).mono ?_
    rintro e w1 ⟨rfl, hb⟩
    have B1 := Lib.hid (hb)
    clear hb
    go_wp2_with fail
    refine (mTimes_any _ _ _ _).mono ?_
    rintro e w2 ⟨rfl, hb⟩
    have B2 := Lib.hid (below_then B1.out hb)
    clear hb B1
    go_wp2_with fail
    refine (mTimes_any _ _ _ _).mono ?_
    rintro e w3 ⟨rfl, hb⟩
    have B3 := Lib.hid (below_then B2.out hb)
    clear hb B2
    go_wp2_with fail
    refine (mTimes_any _ _ _ _).mono ?_
    rintro e w4 ⟨rfl, hb⟩
    have B4 := Lib.hid (below_then B3.out hb)
    clear hb B3
    rw [HE.out, HE2.out, HE3.out]
    generalize timesV p a r = x at *
    generalize timesV p b r = y at *
    generalize timesV p (a + b) r = z at *
    go_wp2
    go_ret
    exact ⟨rfl, B4.out⟩
end Go.Proofs.Ytahpoikbnjhkgaa
