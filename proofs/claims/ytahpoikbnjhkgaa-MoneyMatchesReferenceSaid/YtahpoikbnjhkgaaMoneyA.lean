/-
The small functions of package money: need, caught, inside, isAmount, half, checked, and the deferred closures: what each call does.
-/
import Derived.Test.YtahpoikbnjhkgaaRows
import Derived.Test.YtahpoikbnjhkgaaBase
import Derived.Defers
import Derived.Recover
import Derived.Outline
import Derived.Laws.Pointers
namespace Go.Proofs.Ytahpoikbnjhkgaa
open Go.RowKit

def inB (n a b : Int) : Bool := decide (a ≤ n ∧ n ≤ b)
theorem inB_true {n a b : Int} (h1 : a ≤ n) (h2 : n ≤ b) : inB n a b = true := by unfold inB; simp [h1, h2]
theorem inB_false {n a b : Int} (h : ¬ (a ≤ n ∧ n ≤ b)) : inB n a b = false := by unfold inB; simp only [h, decide_false]
theorem inB_spec (n a b : Int) : inB n a b = decide (a ≤ n ∧ n ≤ b) := rfl

theorem mInside_any (n a b : Int) (w : World) : Calls Try.prog 24 #[.int .i64 n, .int .i64 a, .int .i64 b] w fun e w' => e = .returned (.bool (inB n a b)) ∧ w = w' := by
  by_cases h1 : a ≤ n
  · by_cases h2 : n ≤ b
    · rw [inB_true h1 h2]
      go_enter Try.func24, Try.ntmps24
      go_wp2
      go_ret
      exact ⟨rfl, rfl⟩
    · rw [inB_false (fun h => h2 h.2)]
      go_enter Try.func24, Try.ntmps24
      go_wp2
      go_ret
      exact ⟨rfl, rfl⟩
  · rw [inB_false (fun h => h1 h.1)]
    go_enter Try.func24, Try.ntmps24
    go_wp2
    go_ret
    exact ⟨rfl, rfl⟩
theorem mIsAmount_any (n : Int) (w : World) : Calls Try.prog 23 #[.int .i64 n] w fun e w' => e = .returned (.bool (inB n 0 1000000000)) ∧ w = w' := by
  go_enter Try.func23, Try.ntmps23
  go_wp2_with (go_at_call 24; refine (mInside_any _ _ _ _).mono ?_; rintro e w' ⟨rfl, rfl⟩)
  go_ret
  exact ⟨rfl, rfl⟩
theorem mNeed_yes (k : Int) (w : World) : Calls Try.prog 22 #[.bool true, .int .i64 k] w fun e w' => e = .returned (.tuple #[]) ∧ w = w' := by
  go_enter Try.func22, Try.ntmps22
  go_wp2
  go_end0
  exact ⟨rfl, rfl⟩
theorem mNeed_no (k : Int) (w : World) : Calls Try.prog 22 #[.bool false, .int .i64 k] w fun e w' => e = .panicked [{ v := .iface 45 (.agg #[.int .i64 k]), recovered := false }] ∧ w = w' := by
  go_enter Try.func22, Try.ntmps22
  go_wp2
  exact ⟨rfl, rfl, rfl⟩
theorem mHalf_any (n b : Int) (w : World) (h0 : 0 ≤ n) (h1 : n ≤ 1000000000000000000) (h2 : 1 ≤ b) (h3 : b ≤ 1000000000) :
    Calls Try.prog 26 #[.int .i64 n, .int .i64 b] w fun e w' => e = .returned (.int .i64 ((2 * n + b) / (2 * b))) ∧ w = w' := by
  go_enter Try.func26, Try.ntmps26
  go_wp2
  go_ret
  exact ⟨rfl, rfl⟩
theorem mChecked_yes (n : Int) (w : World) (h : inB n 0 1000000000 = true) : Calls Try.prog 25 #[.int .i64 n] w fun e w' => e = .returned (.int .i64 n) ∧ w = w' := by
  have H := Lib.hid h
  clear h
  go_enter Try.func25, Try.ntmps25
  go_wp2_with (go_at_call 23; refine (mIsAmount_any _ _).mono ?_; rintro e w' ⟨rfl, rfl⟩)
  rw [H.out]
  go_wp2_with (go_at_call 22; refine (mNeed_yes _ _).mono ?_; rintro e w' ⟨rfl, rfl⟩)
  go_ret
  exact ⟨rfl, rfl⟩
theorem mChecked_no (n : Int) (w : World) (h : inB n 0 1000000000 = false) : Calls Try.prog 25 #[.int .i64 n] w fun e w' => e = .panicked [{ v := .iface 45 (.agg #[.int .i64 3]), recovered := false }] ∧ w = w' := by
  have H := Lib.hid h
  clear h
  go_enter Try.func25, Try.ntmps25
  go_wp2_with (go_at_call 23; refine (mIsAmount_any _ _).mono ?_; rintro e w' ⟨rfl, rfl⟩)
  rw [H.out]
  go_wp2_with (go_at_call 22; refine (mNeed_no _ _).mono ?_; rintro e w' ⟨rfl, rfl⟩)
  exact ⟨rfl, rfl, rfl⟩
end Go.Proofs.Ytahpoikbnjhkgaa
