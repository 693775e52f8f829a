/-
The walk of the law MoneyOrder.
-/
import Derived.Test.YtahpoikbnjhkgaaMoneyH
import Derived.Deep.DeepCutAuto
namespace Go.Proofs.Ytahpoikbnjhkgaa
open Go.RowKit
set_option linter.unusedVariables false

theorem half_mono {n m r : Int} (hr : 1 ≤ r) (h : n ≤ m) : halfV n r ≤ halfV m r := by
  unfold halfV; exact Int.ediv_le_ediv (by omega) (by omega)
/-- What a greater argument may do to an answer: of two answers without error the second is not less. -/
def NoLess (e v f u : Int) : Prop := e = 0 → f = 0 → v ≤ u
theorem times_price (a b c m : Int) (hm : 0 ≤ m) : NoLess (timesE a b c) (timesV a b c) (timesE (a + m) b c) (timesV (a + m) b c) := by
  intro h1 h2
  rcases times_cases a b c with ⟨x, _⟩ | ⟨_, t1, v1, _, _⟩
  · exact absurd h1 x
  rcases times_cases (a + m) b c with ⟨x, _⟩ | ⟨_, t2, v2, _, _⟩
  · exact absurd h2 x
  obtain ⟨a0, a1, b0, b1, c0, c1⟩ := tOk_of t1
  rw [v1, v2]
  exact half_mono c0 (Int.mul_le_mul_of_nonneg_right (by omega) b0)
theorem times_many (a b c m : Int) (hm : 0 ≤ m) : NoLess (timesE a b c) (timesV a b c) (timesE a (b + m) c) (timesV a (b + m) c) := by
  intro h1 h2
  rcases times_cases a b c with ⟨x, _⟩ | ⟨_, t1, v1, _, _⟩
  · exact absurd h1 x
  rcases times_cases a (b + m) c with ⟨x, _⟩ | ⟨_, t2, v2, _, _⟩
  · exact absurd h2 x
  obtain ⟨a0, a1, b0, b1, c0, c1⟩ := tOk_of t1
  rw [v1, v2]
  exact half_mono c0 (Int.mul_le_mul_of_nonneg_left (by omega) a0)
theorem start_price (a b c m : Int) (hm : 0 ≤ m) : NoLess (startE a b c) (startV a b c) (startE (a + m) b c) (startV (a + m) b c) := by
  intro h1 h2
  rcases start_cases a b c with ⟨x, _⟩ | ⟨_, t1, v1, _, _⟩
  · exact absurd h1 x
  rcases start_cases (a + m) b c with ⟨x, _⟩ | ⟨_, t2, v2, _, _⟩
  · exact absurd h2 x
  obtain ⟨a0, a1, b0, b1, c0, c1⟩ := tOk_of t1
  rw [v1, v2]
  unfold startN
  exact Int.mul_le_mul_of_nonneg_right (by omega) (Int.ediv_nonneg (by omega) (by omega))
theorem start_many (a b c m : Int) (hm : 0 ≤ m) : NoLess (startE a b c) (startV a b c) (startE a (b + m) c) (startV a (b + m) c) := by
  intro h1 h2
  rcases start_cases a b c with ⟨x, _⟩ | ⟨_, t1, v1, _, _⟩
  · exact absurd h1 x
  rcases start_cases a (b + m) c with ⟨x, _⟩ | ⟨_, t2, v2, _, _⟩
  · exact absurd h2 x
  obtain ⟨a0, a1, b0, b1, c0, c1⟩ := tOk_of t1
  rw [v1, v2]
  unfold startN
  exact Int.mul_le_mul_of_nonneg_left (Int.ediv_le_ediv (by omega) (by omega)) a0
theorem tax_cases (p q : Int) : (taxE p q ≠ 0 ∧ taxV p q = 0) ∨ (taxE p q = 0 ∧ xOk p q = true ∧ taxV p q = halfV (p * q) 10000) := by
  unfold taxE taxV fitE fitV
  cases h : xOk p q with
  | false => left; simp
  | true =>
    cases hv : inB (halfV (p * q) 10000) 0 1000000000 with
    | true => right; simp
    | false => left; simp
theorem xOk_of {p q : Int} (h : xOk p q = true) : 0 ≤ p ∧ 0 ≤ q := by
  unfold xOk at h
  rw [Bool.and_eq_true_iff] at h
  have a := inB_of h.1
  have b := inB_of h.2
  omega
theorem tax_price (a b m : Int) (hm : 0 ≤ m) : NoLess (taxE a b) (taxV a b) (taxE (a + m) b) (taxV (a + m) b) := by
  intro h1 h2
  rcases tax_cases a b with ⟨x, _⟩ | ⟨_, t1, v1⟩
  · exact absurd h1 x
  rcases tax_cases (a + m) b with ⟨x, _⟩ | ⟨_, t2, v2⟩
  · exact absurd h2 x
  obtain ⟨a0, b0⟩ := xOk_of t1
  rw [v1, v2]
  exact half_mono (by omega) (Int.mul_le_mul_of_nonneg_right (by omega) b0)
theorem tax_many (a b m : Int) (hm : 0 ≤ m) : NoLess (taxE a b) (taxV a b) (taxE a (b + m)) (taxV a (b + m)) := by
  intro h1 h2
  rcases tax_cases a b with ⟨x, _⟩ | ⟨_, t1, v1⟩
  · exact absurd h1 x
  rcases tax_cases a (b + m) with ⟨x, _⟩ | ⟨_, t2, v2⟩
  · exact absurd h2 x
  obtain ⟨a0, b0⟩ := xOk_of t1
  rw [v1, v2]
  exact half_mono (by omega) (Int.mul_le_mul_of_nonneg_left (by omega) a0)

set_option maxRecDepth 100000 in
set_option maxHeartbeats 8000000 in
theorem walk_MoneyOrder (a : Int) (ha : (Lit.int .i64 a).wf = true) (b : Int) (hb0 : (Lit.int .i64 b).wf = true) (c : Int) (hc : (Lit.int .i64 c).wf = true) (m : Int) (hm : (Lit.int .i64 m).wf = true) (A : Int) (hA : (Lit.int .i64 A).wf = true)
    (a0 : Option Addr) (cap : Nat) (ws : List Int) (w : World) (hr : Rd 1 encI w a0 ws) (hwz : ∀ x ∈ ws, (Lit.int .i64 x).wf = true) :
    Calls Try.prog 8 #[.int .i64 a, .int .i64 b, .int .i64 c, .int .i64 m, .int .i64 A, .slice a0 ws.length cap] w (TruePost w) := by
  have HR := Lib.hid hr
  obtain ⟨al, ah⟩ := wf_bd ha
  obtain ⟨bl, bh⟩ := wf_bd hb0
  clear hr hwz ha hb0 hc hm hA
  obtain ⟨n, hn⟩ : ∃ n, n = ws.length := ⟨_, rfl⟩
  rw [← hn]
  have HN := Lib.hid hn
  clear hn
  by_cases c0 : m < 0
  · as_aux_lemma =>
    go_enter Try.func8, Try.ntmps8
    go_wp2_with fail
    refine (lmHead_any _).mono ?_
    rintro e w1 ⟨rfl, hb⟩
    have B1 := Lib.hid hb
    clear hb
    go_wp2
    go_ret
    exact ⟨rfl, B1.out⟩
  by_cases c1 : 1000000000 < a
  · as_aux_lemma =>
    go_enter Try.func8, Try.ntmps8
    go_wp2_with fail
    refine (lmHead_any _).mono ?_
    rintro e w1 ⟨rfl, hb⟩
    have B1 := Lib.hid hb
    clear hb
    go_wp2
    go_ret
    exact ⟨rfl, B1.out⟩
  by_cases c2 : 1000000000 < b
  · as_aux_lemma =>
    go_enter Try.func8, Try.ntmps8
    go_wp2_with fail
    refine (lmHead_any _).mono ?_
    rintro e w1 ⟨rfl, hb⟩
    have B1 := Lib.hid hb
    clear hb
    go_wp2
    go_ret
    exact ⟨rfl, B1.out⟩
  by_cases c3 : 1000000000 < m
  · as_aux_lemma =>
    go_enter Try.func8, Try.ntmps8
    go_wp2_with fail
    refine (lmHead_any _).mono ?_
    rintro e w1 ⟨rfl, hb⟩
    have B1 := Lib.hid hb
    clear hb
    go_wp2
    go_ret
    exact ⟨rfl, B1.out⟩
  by_cases c4 : 100 < n
  · as_aux_lemma =>
    go_enter Try.func8, Try.ntmps8
    go_wp2_with fail
    refine (lmHead_any _).mono ?_
    rintro e w1 ⟨rfl, hb⟩
    have B1 := Lib.hid hb
    clear hb
    go_wp2
    go_ret
    exact ⟨rfl, B1.out⟩
  go_enter Try.func8, Try.ntmps8
  go_wp2_with fail
  refine (lmHead_any _).mono ?_
  rintro e w1 ⟨rfl, hb⟩
  have B1 := Lib.hid (hb)
  have R1 := Lib.hid (HR.out.keep hb)
  clear hb
  go_wp2_with fail
  refine (mTimes_any _ _ _ _).mono ?_
  rintro e w2 ⟨rfl, hb⟩
  have B2 := Lib.hid (below_then B1.out hb)
  have R2 := Lib.hid (R1.out.keep hb)
  clear hb B1 R1
  go_wp2_with fail
  refine (mTimes_any _ _ _ _).mono ?_
  rintro e w3 ⟨rfl, hb⟩
  have B3 := Lib.hid (below_then B2.out hb)
  have R3 := Lib.hid (R2.out.keep hb)
  clear hb B2 R2
  go_wp2_with fail
  refine (mTimes_any _ _ _ _).mono ?_
  rintro e w4 ⟨rfl, hb⟩
  have B4 := Lib.hid (below_then B3.out hb)
  have R4 := Lib.hid (R3.out.keep hb)
  clear hb B3 R3
  have N1 : Hid (NoLess (timesE a b c) (timesV a b c) (timesE (a + m) b c) (timesV (a + m) b c)) := Lib.hid (times_price a b c m (by omega))
  have N2 : Hid (NoLess (timesE a b c) (timesV a b c) (timesE a (b + m) c) (timesV a (b + m) c)) := Lib.hid (times_many a b c m (by omega))
  generalize timesV a b c = x1 at N1 N2 ⊢
  generalize timesE a b c = y1 at N1 N2 ⊢
  generalize timesV (a + m) b c = x2 at N1 N2 ⊢
  generalize timesE (a + m) b c = y2 at N1 N2 ⊢
  generalize timesV a (b + m) c = x3 at N1 N2 ⊢
  generalize timesE a (b + m) c = y3 at N1 N2 ⊢
  go_upto_region 7 with (fail)
  go_cut [89] (fun v wx => v = .bool false ∧ Hid (w4 = wx))
  case first => as_aux_lemma =>
    clear R4 B4
    by_cases z1 : y1 = 0
    · have z1b : (y1 == 0) = true := by rw [z1]; rfl
      by_cases z2 : y2 = 0
      · have z2b : (y2 == 0) = true := by rw [z2]; rfl
        have l2 : ¬ x2 < x1 := by have := N1.out z1 z2; omega
        by_cases z3 : y3 = 0
        · have z3b : (y3 == 0) = true := by rw [z3]; rfl
          have l3 : ¬ x3 < x1 := by have := N2.out z1 z3; omega
          clear z1 z2 z3
          go_wp2
          go_meet
          exact ⟨rfl, Lib.hid rfl⟩
        · have z3b : (y3 == 0) = false := by rw [beq_eq_false_iff_ne]; exact z3
          clear z1 z2 z3
          go_wp2
          go_meet
          exact ⟨rfl, Lib.hid rfl⟩
      · have z2b : (y2 == 0) = false := by rw [beq_eq_false_iff_ne]; exact z2
        by_cases z3 : y3 = 0
        · have z3b : (y3 == 0) = true := by rw [z3]; rfl
          have l3 : ¬ x3 < x1 := by have := N2.out z1 z3; omega
          clear z1 z2 z3
          go_wp2
          go_meet
          exact ⟨rfl, Lib.hid rfl⟩
        · have z3b : (y3 == 0) = false := by rw [beq_eq_false_iff_ne]; exact z3
          clear z1 z2 z3
          go_wp2
          go_meet
          exact ⟨rfl, Lib.hid rfl⟩
    · have z1b : (y1 == 0) = false := by rw [beq_eq_false_iff_ne]; exact z1
      clear z1
      go_wp2
      go_meet
      exact ⟨rfl, Lib.hid rfl⟩
  obtain ⟨rfl, HW⟩ := hcut
  obtain rfl := HW.out
  clear HW N1 N2
  go_wp2_with fail
  refine (mStarted_any _ _ _ _).mono ?_
  rintro e w5 ⟨rfl, hb⟩
  have B5 := Lib.hid (below_then B4.out hb)
  have R5 := Lib.hid (R4.out.keep hb)
  clear hb B4 R4
  go_wp2_with fail
  refine (mStarted_any _ _ _ _).mono ?_
  rintro e w6 ⟨rfl, hb⟩
  have B6 := Lib.hid (below_then B5.out hb)
  have R6 := Lib.hid (R5.out.keep hb)
  clear hb B5 R5
  go_wp2_with fail
  refine (mStarted_any _ _ _ _).mono ?_
  rintro e w7 ⟨rfl, hb⟩
  have B7 := Lib.hid (below_then B6.out hb)
  have R7 := Lib.hid (R6.out.keep hb)
  clear hb B6 R6
  have N1 : Hid (NoLess (startE a b c) (startV a b c) (startE (a + m) b c) (startV (a + m) b c)) := Lib.hid (start_price a b c m (by omega))
  have N2 : Hid (NoLess (startE a b c) (startV a b c) (startE a (b + m) c) (startV a (b + m) c)) := Lib.hid (start_many a b c m (by omega))
  generalize startV a b c = x1 at N1 N2 ⊢
  generalize startE a b c = y1 at N1 N2 ⊢
  generalize startV (a + m) b c = x2 at N1 N2 ⊢
  generalize startE (a + m) b c = y2 at N1 N2 ⊢
  generalize startV a (b + m) c = x3 at N1 N2 ⊢
  generalize startE a (b + m) c = y3 at N1 N2 ⊢
  go_upto_region 12 with (fail)
  go_cut [134] (fun v wx => v = .bool false ∧ Hid (w7 = wx))
  case first => as_aux_lemma =>
    clear R7 B7
    by_cases z1 : y1 = 0
    · have z1b : (y1 == 0) = true := by rw [z1]; rfl
      by_cases z2 : y2 = 0
      · have z2b : (y2 == 0) = true := by rw [z2]; rfl
        have l2 : ¬ x2 < x1 := by have := N1.out z1 z2; omega
        by_cases z3 : y3 = 0
        · have z3b : (y3 == 0) = true := by rw [z3]; rfl
          have l3 : ¬ x3 < x1 := by have := N2.out z1 z3; omega
          clear z1 z2 z3
          go_wp2
          go_meet
          exact ⟨rfl, Lib.hid rfl⟩
        · have z3b : (y3 == 0) = false := by rw [beq_eq_false_iff_ne]; exact z3
          clear z1 z2 z3
          go_wp2
          go_meet
          exact ⟨rfl, Lib.hid rfl⟩
      · have z2b : (y2 == 0) = false := by rw [beq_eq_false_iff_ne]; exact z2
        by_cases z3 : y3 = 0
        · have z3b : (y3 == 0) = true := by rw [z3]; rfl
          have l3 : ¬ x3 < x1 := by have := N2.out z1 z3; omega
          clear z1 z2 z3
          go_wp2
          go_meet
          exact ⟨rfl, Lib.hid rfl⟩
        · have z3b : (y3 == 0) = false := by rw [beq_eq_false_iff_ne]; exact z3
          clear z1 z2 z3
          go_wp2
          go_meet
          exact ⟨rfl, Lib.hid rfl⟩
    · have z1b : (y1 == 0) = false := by rw [beq_eq_false_iff_ne]; exact z1
      clear z1
      go_wp2
      go_meet
      exact ⟨rfl, Lib.hid rfl⟩
  obtain ⟨rfl, HW⟩ := hcut
  obtain rfl := HW.out
  clear HW N1 N2
  go_wp2_with fail
  refine (mTax_any _ _ _).mono ?_
  rintro e w8 ⟨rfl, hb⟩
  have B8 := Lib.hid (below_then B7.out hb)
  have R8 := Lib.hid (R7.out.keep hb)
  clear hb B7 R7
  go_wp2_with fail
  refine (mTax_any _ _ _).mono ?_
  rintro e w9 ⟨rfl, hb⟩
  have B9 := Lib.hid (below_then B8.out hb)
  have R9 := Lib.hid (R8.out.keep hb)
  clear hb B8 R8
  go_wp2_with fail
  refine (mTax_any _ _ _).mono ?_
  rintro e w10 ⟨rfl, hb⟩
  have B10 := Lib.hid (below_then B9.out hb)
  have R10 := Lib.hid (R9.out.keep hb)
  clear hb B9 R9
  have N1 : Hid (NoLess (taxE a b) (taxV a b) (taxE (a + m) b) (taxV (a + m) b)) := Lib.hid (tax_price a b m (by omega))
  have N2 : Hid (NoLess (taxE a b) (taxV a b) (taxE a (b + m)) (taxV a (b + m))) := Lib.hid (tax_many a b m (by omega))
  generalize taxV a b = x1 at N1 N2 ⊢
  generalize taxE a b = y1 at N1 N2 ⊢
  generalize taxV (a + m) b = x2 at N1 N2 ⊢
  generalize taxE (a + m) b = y2 at N1 N2 ⊢
  generalize taxV a (b + m) = x3 at N1 N2 ⊢
  generalize taxE a (b + m) = y3 at N1 N2 ⊢
  go_upto_region 17 with (fail)
  go_cut [176] (fun v wx => v = .bool false ∧ Hid (w10 = wx))
  case first => as_aux_lemma =>
    clear R10 B10
    by_cases z1 : y1 = 0
    · have z1b : (y1 == 0) = true := by rw [z1]; rfl
      by_cases z2 : y2 = 0
      · have z2b : (y2 == 0) = true := by rw [z2]; rfl
        have l2 : ¬ x2 < x1 := by have := N1.out z1 z2; omega
        by_cases z3 : y3 = 0
        · have z3b : (y3 == 0) = true := by rw [z3]; rfl
          have l3 : ¬ x3 < x1 := by have := N2.out z1 z3; omega
          clear z1 z2 z3
          go_wp2
          go_meet
          exact ⟨rfl, Lib.hid rfl⟩
        · have z3b : (y3 == 0) = false := by rw [beq_eq_false_iff_ne]; exact z3
          clear z1 z2 z3
          go_wp2
          go_meet
          exact ⟨rfl, Lib.hid rfl⟩
      · have z2b : (y2 == 0) = false := by rw [beq_eq_false_iff_ne]; exact z2
        by_cases z3 : y3 = 0
        · have z3b : (y3 == 0) = true := by rw [z3]; rfl
          have l3 : ¬ x3 < x1 := by have := N2.out z1 z3; omega
          clear z1 z2 z3
          go_wp2
          go_meet
          exact ⟨rfl, Lib.hid rfl⟩
        · have z3b : (y3 == 0) = false := by rw [beq_eq_false_iff_ne]; exact z3
          clear z1 z2 z3
          go_wp2
          go_meet
          exact ⟨rfl, Lib.hid rfl⟩
    · have z1b : (y1 == 0) = false := by rw [beq_eq_false_iff_ne]; exact z1
      clear z1
      go_wp2
      go_meet
      exact ⟨rfl, Lib.hid rfl⟩
  obtain ⟨rfl, HW⟩ := hcut
  obtain rfl := HW.out
  clear HW N1 N2
  go_wp2_with fail
  rw [HN.out]
  refine (mSplit_any A ws _ _ _ R10.out).mono ?_
  rintro e w11 ⟨la, lc, rfl, hr, hb⟩
  have B11 := Lib.hid (below_then B10.out hb)
  have R11 := Lib.hid (R10.out.keep hb)
  have L11 := Lib.hid hr
  clear hb hr B10 R10
  cases hok : splitOk A ws with
  | false => as_aux_lemma =>
    have HL : Hid (splitL A ws = []) := Lib.hid (by unfold splitL; rw [hok]; rfl)
    have HE : Hid (splitE A ws = 1) := Lib.hid (by unfold splitE; rw [hok]; rfl)
    clear hok
    rw [HL.out, HE.out]
    go_wp2
    go_ret
    exact ⟨rfl, B11.out⟩
  | true =>
    have HE : Hid (splitE A ws = 0) := Lib.hid (by unfold splitE; rw [hok]; rfl)
    obtain ⟨P, hp⟩ := split_ok hok
    clear hok
    rw [← HN.out] at hp
    have n0 := hp.n0
    have n1 := hp.n1
    generalize sumL ws = S at hp
    have HP := Lib.hid hp
    clear hp
    rw [HE.out, HP.out.len, ← HN.out]
    have hdn : ((n : Int) != (n : Int)) = false := by simp
    go_wp2
    as_aux_lemma =>
    go_loopg [22, 23, 193] n (fun g1 v22 v23 v193 wr => ∃ k q : Nat, v193 = .int .i64 k ∧ k ≤ n ∧ n - k ≤ g1 ∧ Hid (w11.drewN q = wr))
    case atStart => exact ⟨0, 0, by go_num, by omega, by omega, Lib.hid rfl⟩
    case round =>
      obtain ⟨i, q, rfl, hk, hg1, HW⟩ := hrel
      obtain rfl := HW.out
      clear HW
      by_cases hlt : i < n
      · as_aux_lemma =>
        have hltz : (i : Int) < (n : Int) := by omega
        go_wp2
        go_loopg [23, 198] n (fun g1 v23 v198 wr => ∃ k q : Nat, v198 = .int .i64 k ∧ k ≤ n ∧ n - k ≤ g1 ∧ Hid (w11.drewN q = wr))
        case atStart => exact ⟨0, q, by go_num, by omega, by omega, Lib.hid rfl⟩
        case round =>
          obtain ⟨k, q, rfl, hk2, hg2, HW⟩ := hrel
          obtain rfl := HW.out
          clear HW
          by_cases hlk : k < n
          · have hlkz : (k : Int) < (n : Int) := by omega
            obtain ⟨bx, ox, rfl, _, cx⟩ := L11.out.int (k := i) (by rw [HP.out.len]; exact hlt)
            obtain ⟨bx', ox', e', _, cx'⟩ := L11.out.int (k := k) (by rw [HP.out.len]; exact hlk)
            obtain ⟨rfl, rfl⟩ : bx = bx' ∧ ox = ox' := by simpa using e'
            obtain ⟨by1, oy, rfl, _, cy⟩ := R11.out.int (k := i) (by rw [← HN.out]; exact hlt)
            obtain ⟨by2, oy2, e2, _, cy'⟩ := R11.out.int (k := k) (by rw [← HN.out]; exact hlk)
            obtain ⟨rfl, rfl⟩ : by1 = by2 ∧ oy = oy2 := by simpa using e2
            have hord : ws[k]?.getD 0 < ws[i]?.getD 0 → ¬ (splitL A ws)[i]?.getD 0 < (splitL A ws)[k]?.getD 0 := by
              intro hw
              have := pV_order (n := n) HP.out.A0 HP.out.hS hlt hlk (show wt ws k < wt ws i from hw)
              rw [← HP.out.P_eq] at this
              rw [HP.out.nth i hlt, HP.out.nth k hlk]
              show ¬ P i < P k
              omega
            have HO := Lib.hid hord
            clear hord e' e2
            generalize (splitL A ws)[i]?.getD 0 = x1 at *
            generalize (splitL A ws)[k]?.getD 0 = x2 at *
            generalize ws[i]?.getD 0 = y1 at *
            generalize ws[k]?.getD 0 = y2 at *
            by_cases hw : y2 < y1
            · have hlt2 := HO.out hw
              have hd1 : decide (y2 < y1) = true := decide_eq_true hw
              have hd2 : decide (x1 < x2) = false := decide_eq_false hlt2
              go_wp2_with fail
              go_quiet (fail)
              go_wp2
              go_roundg (n - (k + 1))
              case measure => omega
              case rel => exact ⟨k + 1, _, by go_num, by omega, by omega, Lib.hid rfl⟩
            · have hd1 : decide (y2 < y1) = false := decide_eq_false hw
              go_wp2_with fail
              go_quiet (fail)
              go_wp2
              go_roundg (n - (k + 1))
              case measure => omega
              case rel => exact ⟨k + 1, _, by go_num, by omega, by omega, Lib.hid rfl⟩
          · have hlkz : ¬ (k : Int) < (n : Int) := by omega
            go_wp2
            go_roundg (n - (i + 1))
            case measure => omega
            case rel => exact ⟨i + 1, q, by go_num, by omega, by omega, Lib.hid rfl⟩
      · have hltz : ¬ (i : Int) < (n : Int) := by omega
        go_wp2
        go_ret
        exact ⟨rfl, below_drewN B11.out q⟩
end Go.Proofs.Ytahpoikbnjhkgaa
