/-
The reference's Times, Started and Tax: what they answer.
-/
import Derived.Test.YtahpoikbnjhkgaaMoneyE
namespace Go.Proofs.Ytahpoikbnjhkgaa
open Go.RowKit

theorem rmAmount_any (n : Int) (w : World) : Calls Try.prog 27 #[.int .i64 n] w fun e w' => e = .returned (.bool (inB n 0 1000000000)) ∧ w = w' := by
  by_cases h1 : 0 ≤ n
  · by_cases h2 : n ≤ 1000000000
    · rw [inB_true h1 h2]
      go_enter Try.func27, Try.ntmps27
      go_wp2
      go_ret
      exact ⟨rfl, rfl⟩
    · rw [inB_false (fun h => h2 h.2)]
      go_enter Try.func27, Try.ntmps27
      go_wp2
      go_ret
      exact ⟨rfl, rfl⟩
  · rw [inB_false (fun h => h1 h.1)]
    go_enter Try.func27, Try.ntmps27
    go_wp2
    go_ret
    exact ⟨rfl, rfl⟩
theorem rmDivided_any (n b : Int) (w : World) (h0 : 0 ≤ n) (h1 : n ≤ 1000000000000000000) (h2 : 1 ≤ b) (h3 : b ≤ 1000000000) :
    Calls Try.prog 29 #[.int .i64 n, .int .i64 b] w fun e w' => e = .returned (.int .i64 (halfV n b)) ∧ w = w' := by
  unfold halfV
  go_enter Try.func29, Try.ntmps29
  go_wp2
  go_ret
  exact ⟨rfl, rfl⟩
theorem rmChecked_any (n : Int) (w : World) : Calls Try.prog 28 #[.int .i64 n] w fun e w' => e = .returned (.tuple #[.int .i64 (fitV n), .int .i64 (fitE n)]) ∧ w = w' := by
  unfold fitV fitE
  cases h : inB n 0 1000000000 with
  | true =>
    have H := Lib.hid h
    clear h
    go_enter Try.func28, Try.ntmps28
    go_wp2_with (go_at_call 27; refine (rmAmount_any _ _).mono ?_; rintro e w' ⟨rfl, rfl⟩; rw [H.out])
    go_ret2
    exact ⟨rfl, rfl⟩
  | false =>
    have H := Lib.hid h
    clear h
    go_enter Try.func28, Try.ntmps28
    go_wp2_with (go_at_call 27; refine (rmAmount_any _ _).mono ?_; rintro e w' ⟨rfl, rfl⟩; rw [H.out])
    go_ret2
    exact ⟨rfl, rfl⟩
theorem tOk_split (p q r : Int) : tOk p q r = (inB p 0 1000000000 && (inB q 0 1000000000 && (!decide (r < 1) && !decide (1000000000 < r)))) := by
  unfold tOk
  rw [Bool.and_assoc]
  congr 2
  unfold inB
  rw [Bool.eq_iff_iff]
  simp only [Bool.and_eq_true, Bool.not_eq_true', decide_eq_true_eq, decide_eq_false_iff_not]
  omega
set_option maxHeartbeats 1000000 in
theorem rmTimes_any (p q r : Int) (w : World) : Calls Try.prog 12 #[.int .i64 p, .int .i64 q, .int .i64 r] w fun e w' => e = .returned (.tuple #[.int .i64 (timesV p q r), .int .i64 (timesE p q r)]) ∧ w = w' := by
  cases h : tOk p q r with
  | false =>
    have hv : timesV p q r = 0 := by unfold timesV; rw [h]; rfl
    have he : timesE p q r = 1 := by unfold timesE; rw [h]; rfl
    rw [hv, he]
    clear hv he
    cases h1 : inB p 0 1000000000 with
    | false =>
      have H1 := Lib.hid h1
      have H2 := Lib.hid h1
      clear h h1
      go_enter Try.func12, Try.ntmps12
      go_wp2_with (go_at_call 27; refine (rmAmount_any _ _).mono ?_; rintro e w' ⟨rfl, rfl⟩; (first | rw [H1.out] | rw [H2.out]))
      go_ret2
      exact ⟨rfl, rfl⟩
    | true =>
      have H1 := Lib.hid h1
      cases h2 : inB q 0 1000000000 with
      | false =>
        have H2 := Lib.hid h2
        clear h h1 h2
        go_enter Try.func12, Try.ntmps12
        go_wp2_with (go_at_call 27; (first | (have tok := H1; refine (rmAmount_any p _).mono ?_; rintro e w' ⟨rfl, rfl⟩; rw [H1.out]) | (refine (rmAmount_any q _).mono ?_; rintro e w' ⟨rfl, rfl⟩; rw [H2.out])))
        go_ret2
        exact ⟨rfl, rfl⟩
      | true =>
        have H2 := Lib.hid h2
        by_cases h3 : r < 1
        · clear h h1 h2
          go_enter Try.func12, Try.ntmps12
          go_wp2_with (go_at_call 27; refine (rmAmount_any _ _).mono ?_; rintro e w' ⟨rfl, rfl⟩; (first | rw [H1.out] | rw [H2.out]))
          go_ret2
          exact ⟨rfl, rfl⟩
        · have h4 : 1000000000 < r := by
            rw [tOk_split, h1, h2] at h
            have h5 : decide (r < 1) = false := decide_eq_false h3
            rw [h5] at h
            simpa using h
          clear h h1 h2
          go_enter Try.func12, Try.ntmps12
          go_wp2_with (go_at_call 27; refine (rmAmount_any _ _).mono ?_; rintro e w' ⟨rfl, rfl⟩; (first | rw [H1.out] | rw [H2.out]))
          go_ret2
          exact ⟨rfl, rfl⟩
  | true =>
    have hv : timesV p q r = fitV (halfV (p * q) r) := by unfold timesV; rw [h]; rfl
    have he : timesE p q r = fitE (halfV (p * q) r) := by unfold timesE; rw [h]; rfl
    rw [hv, he]
    clear hv he
    obtain ⟨p0, p1, q0, q1, r0, r1⟩ := (show 0 ≤ p ∧ p ≤ 1000000000 ∧ 0 ≤ q ∧ q ≤ 1000000000 ∧ 1 ≤ r ∧ r ≤ 1000000000 from by
      unfold tOk at h
      rw [Bool.and_eq_true_iff, Bool.and_eq_true_iff] at h
      have a := inB_of h.1.1
      have b := inB_of h.1.2
      have c := inB_of h.2
      omega)
    have H1 := Lib.hid (inB_true p0 p1)
    have H2 := Lib.hid (inB_true q0 q1)
    obtain ⟨m1, m2⟩ := mul_bd p0 p1 q0 (by omega)
    clear h
    go_enter Try.func12, Try.ntmps12
    go_wp2_with (first | (go_at_call 27; refine (rmAmount_any _ _).mono ?_; rintro e w' ⟨rfl, rfl⟩; (first | rw [H1.out] | rw [H2.out])) | (go_at_call 29; refine (rmDivided_any _ _ _ (by omega) (by omega) (by omega) (by omega)).mono ?_; rintro e w' ⟨rfl, rfl⟩) | (go_at_call 28; refine (rmChecked_any _ _).mono ?_; rintro e w' ⟨rfl, rfl⟩))
    go_ret2
    exact ⟨rfl, rfl⟩
set_option maxHeartbeats 1000000 in
theorem rmStarted_any (p q r : Int) (w : World) : Calls Try.prog 14 #[.int .i64 p, .int .i64 q, .int .i64 r] w fun e w' => e = .returned (.tuple #[.int .i64 (startV p q r), .int .i64 (startE p q r)]) ∧ w = w' := by
  cases h : tOk p q r with
  | false =>
    have hv : startV p q r = 0 := by unfold startV; rw [h]; rfl
    have he : startE p q r = 1 := by unfold startE; rw [h]; rfl
    rw [hv, he]
    clear hv he
    cases h1 : inB p 0 1000000000 with
    | false =>
      have H1 := Lib.hid h1
      have H2 := Lib.hid h1
      clear h h1
      go_enter Try.func14, Try.ntmps14
      go_wp2_with (go_at_call 27; refine (rmAmount_any _ _).mono ?_; rintro e w' ⟨rfl, rfl⟩; (first | rw [H1.out] | rw [H2.out]))
      go_ret2
      exact ⟨rfl, rfl⟩
    | true =>
      have H1 := Lib.hid h1
      cases h2 : inB q 0 1000000000 with
      | false =>
        have H2 := Lib.hid h2
        clear h h1 h2
        go_enter Try.func14, Try.ntmps14
        go_wp2_with (go_at_call 27; (first | (have tok := H1; refine (rmAmount_any p _).mono ?_; rintro e w' ⟨rfl, rfl⟩; rw [H1.out]) | (refine (rmAmount_any q _).mono ?_; rintro e w' ⟨rfl, rfl⟩; rw [H2.out])))
        go_ret2
        exact ⟨rfl, rfl⟩
      | true =>
        have H2 := Lib.hid h2
        by_cases h3 : r < 1
        · clear h h1 h2
          go_enter Try.func14, Try.ntmps14
          go_wp2_with (go_at_call 27; refine (rmAmount_any _ _).mono ?_; rintro e w' ⟨rfl, rfl⟩; (first | rw [H1.out] | rw [H2.out]))
          go_ret2
          exact ⟨rfl, rfl⟩
        · have h4 : 1000000000 < r := by
            rw [tOk_split, h1, h2] at h
            have h5 : decide (r < 1) = false := decide_eq_false h3
            rw [h5] at h
            simpa using h
          clear h h1 h2
          go_enter Try.func14, Try.ntmps14
          go_wp2_with (go_at_call 27; refine (rmAmount_any _ _).mono ?_; rintro e w' ⟨rfl, rfl⟩; (first | rw [H1.out] | rw [H2.out]))
          go_ret2
          exact ⟨rfl, rfl⟩
  | true =>
    have hv : startV p q r = fitV (startN p q r) := by unfold startV; rw [h]; rfl
    have he : startE p q r = fitE (startN p q r) := by unfold startE; rw [h]; rfl
    rw [hv, he]
    clear hv he
    obtain ⟨p0, p1, q0, q1, r0, r1⟩ := (show 0 ≤ p ∧ p ≤ 1000000000 ∧ 0 ≤ q ∧ q ≤ 1000000000 ∧ 1 ≤ r ∧ r ≤ 1000000000 from by
      unfold tOk at h
      rw [Bool.and_eq_true_iff, Bool.and_eq_true_iff] at h
      have a := inB_of h.1.1
      have b := inB_of h.1.2
      have c := inB_of h.2
      omega)
    have H1 := Lib.hid (inB_true p0 p1)
    have H2 := Lib.hid (inB_true q0 q1)
    have d1 : 0 ≤ (q + r - 1) / r := Int.ediv_nonneg (by omega) (by omega)
    have d2 : (q + r - 1) / r ≤ 1000000000 := start_bd q0 q1 r0
    obtain ⟨m1, m2⟩ := mul_bd p0 p1 d1 d2
    unfold startN
    clear h
    go_enter Try.func14, Try.ntmps14
    go_wp2_with (first | (go_at_call 27; refine (rmAmount_any _ _).mono ?_; rintro e w' ⟨rfl, rfl⟩; (first | rw [H1.out] | rw [H2.out])) | (go_at_call 28; refine (rmChecked_any _ _).mono ?_; rintro e w' ⟨rfl, rfl⟩))
    go_ret2
    exact ⟨rfl, rfl⟩
set_option maxHeartbeats 1000000 in
theorem rmTax_any (p q : Int) (w : World) : Calls Try.prog 16 #[.int .i64 p, .int .i64 q] w fun e w' => e = .returned (.tuple #[.int .i64 (taxV p q), .int .i64 (taxE p q)]) ∧ w = w' := by
  cases h : xOk p q with
  | false =>
    have hv : taxV p q = 0 := by unfold taxV; rw [h]; rfl
    have he : taxE p q = 1 := by unfold taxE; rw [h]; rfl
    rw [hv, he]
    clear hv he
    cases h1 : inB p 0 1000000000 with
    | false =>
      have H1 := Lib.hid h1
      have H2 := Lib.hid h1
      clear h h1
      go_enter Try.func16, Try.ntmps16
      go_wp2_with (go_at_call 27; refine (rmAmount_any _ _).mono ?_; rintro e w' ⟨rfl, rfl⟩; (first | rw [H1.out] | rw [H2.out]))
      go_ret2
      exact ⟨rfl, rfl⟩
    | true =>
      have H1 := Lib.hid h1
      have H2 := H1
      by_cases h3 : q < 0
      · clear h h1
        go_enter Try.func16, Try.ntmps16
        go_wp2_with (go_at_call 27; refine (rmAmount_any _ _).mono ?_; rintro e w' ⟨rfl, rfl⟩; (first | rw [H1.out] | rw [H2.out]))
        go_ret2
        exact ⟨rfl, rfl⟩
      · have h4 : 100000 < q := by
          unfold xOk at h
          rw [h1, Bool.true_and] at h
          unfold inB at h
          rw [decide_eq_false_iff_not] at h
          omega
        clear h h1
        go_enter Try.func16, Try.ntmps16
        go_wp2_with (go_at_call 27; refine (rmAmount_any _ _).mono ?_; rintro e w' ⟨rfl, rfl⟩; (first | rw [H1.out] | rw [H2.out]))
        go_ret2
        exact ⟨rfl, rfl⟩
  | true =>
    have hv : taxV p q = fitV (halfV (p * q) 10000) := by unfold taxV; rw [h]; rfl
    have he : taxE p q = fitE (halfV (p * q) 10000) := by unfold taxE; rw [h]; rfl
    rw [hv, he]
    clear hv he
    obtain ⟨p0, p1, q0, q1⟩ := (show 0 ≤ p ∧ p ≤ 1000000000 ∧ 0 ≤ q ∧ q ≤ 100000 from by
      unfold xOk at h
      rw [Bool.and_eq_true_iff] at h
      have a := inB_of h.1
      have b := inB_of h.2
      omega)
    have H1 := Lib.hid (inB_true p0 p1)
    have H2 := H1
    obtain ⟨m1, m2⟩ := mul_bd p0 p1 q0 (by omega)
    clear h
    go_enter Try.func16, Try.ntmps16
    go_wp2_with (first | (go_at_call 27; refine (rmAmount_any _ _).mono ?_; rintro e w' ⟨rfl, rfl⟩; (first | rw [H1.out] | rw [H2.out])) | (go_at_call 29; refine (rmDivided_any _ _ _ (by omega) (by omega) (by omega) (by omega)).mono ?_; rintro e w' ⟨rfl, rfl⟩) | (go_at_call 28; refine (rmChecked_any _ _).mono ?_; rintro e w' ⟨rfl, rfl⟩))
    go_ret2
    exact ⟨rfl, rfl⟩
end Go.Proofs.Ytahpoikbnjhkgaa
