/-
Several texts in one: TreeSum, PrMath, PrWit, PrA, PrSum.
-/
import Derived.Test.YtpkonifeieepfaaGreatGLTreeE
import Derived.Test.YtpkonifeieepfaaGreatGLTreeA
import Derived.Test.YtpkonifeieepfaaGreatGLLimD
import Derived.Test.YtpkonifeieepfaaGreatGLSortP
/-
Plain: a load is what the chargers on the conductor draw and what leads from it.
-/
namespace Go.Proofs.YtpkonifeieepfaaGreat
open Go.RowKit
set_option linter.unusedVariables false
set_option linter.unusedSimpArgs false
end Go.Proofs.YtpkonifeieepfaaGreat
/-
Plain: proofs (sums that are great enough, and not too great).
-/
namespace Go.Proofs.YtpkonifeieepfaaGreat
open Go.RowKit
set_option linter.unusedVariables false
set_option linter.unusedSimpArgs false
end Go.Proofs.YtpkonifeieepfaaGreat
/-
Plain: the smallest currents that exceed a limit: those with the greatest tops first.
-/
namespace Go.Proofs.YtpkonifeieepfaaGreat
open Go.RowKit
set_option linter.unusedVariables false
set_option linter.unusedSimpArgs false
theorem S_noneW {n : Nat} {g : Nat → Int} (h : ∀ i, i < n → g i = 0) : S n g = 0 := by rw [S_congr h, S_zero]
/-- What the first k of them carry. -/
def preS (f : Nat → Int) (v : Nat → Int) (k : Nat) : Int := S k (fun j => f (v j).toNat)
/-- What the one in place j gets. -/
def cutW (f : Nat → Int) (v : Nat → Int) (L : Int) (j : Nat) : Int := max 0 (min (f (v j).toNat) (L - preS f v j))
/-- What number i gets of the first k. -/
def outW (f : Nat → Int) (v : Nat → Int) (L : Int) (k i : Nat) : Int := S k (fun j => pick ((v j).toNat = i) (cutW f v L j))
theorem preS_succ (f v) (k : Nat) : preS f v (k + 1) = preS f v k + f (v k).toNat := rfl
theorem preS_nonneg {f : Nat → Int} (hf : ∀ i, 0 ≤ f i) (v : Nat → Int) (k : Nat) : 0 ≤ preS f v k := S_nonneg (fun j _ => hf _)
theorem preS_mono {f : Nat → Int} (hf : ∀ i, 0 ≤ f i) (v : Nat → Int) {k m : Nat} (h : k ≤ m) : preS f v k ≤ preS f v m := by
  induction h with
  | refl => exact Int.le_refl _
  | @step m _ ih => rw [preS_succ]; have := hf (v m).toNat; omega
theorem outW_succ (f v) (L : Int) (k i : Nat) : outW f v L (k + 1) i = outW f v L k i + pick ((v k).toNat = i) (cutW f v L k) := rfl
/-- They differ, and lie below N. -/
structure DiffW (v : Nat → Int) (n N : Nat) : Prop where
  bd : ∀ j, j < n → 0 ≤ v j ∧ v j < N
  inj : ∀ i j, i < n → j < n → v i = v j → i = j
theorem outW_off {f : Nat → Int} {v : Nat → Int} {n N : Nat} (h : DiffW v n N) (L : Int) {k i : Nat} (hk : k ≤ n) (hi : ∀ j, j < k → v j ≠ (i : Int)) : outW f v L k i = 0 := by
  unfold outW
  refine S_noneW (fun j hj => pick_neg (fun x => hi j hj ?_) _)
  have := h.bd j (by omega)
  omega
theorem outW_step {f : Nat → Int} {v : Nat → Int} {n N : Nat} (h : DiffW v n N) (L : Int) {k : Nat} (hk : k < n) (i : Nat) : outW f v L (k + 1) i = if i = (v k).toNat then cutW f v L k else outW f v L k i := by
  rw [outW_succ]
  by_cases e : i = (v k).toNat
  · subst e
    rw [if_pos rfl, pick_pos rfl, outW_off h L (by omega) (fun j hj x => ?_), Int.zero_add]
    have := h.bd k hk
    have := h.inj j k (by omega) hk (by omega)
    omega
  · rw [if_neg e, pick_neg (fun x => e x.symm), Int.add_zero]
/-- Once nothing is left, nothing changes. -/
theorem outW_done {f : Nat → Int} (hf : ∀ i, 0 ≤ f i) {v : Nat → Int} {L : Int} {k : Nat} (h : L ≤ preS f v k) (i : Nat) : ∀ m, k ≤ m → outW f v L m i = outW f v L k i
  | 0, hm => by rw [show k = 0 by omega]
  | m + 1, hm => by
    rcases Nat.lt_or_ge m k with h1 | h1
    · rw [show k = m + 1 by omega]
    · rw [outW_succ, outW_done hf h i m h1]
      have h2 := preS_mono hf v h1
      have h3 := hf (v m).toNat
      have : cutW f v L m = 0 := by unfold cutW; omega
      rw [this]
      unfold pick
      split <;> omega
end Go.Proofs.YtpkonifeieepfaaGreat
/-
The iterator over the conductors from the last one to the first one.
-/
namespace Go.Proofs.YtpkonifeieepfaaGreat
open Go.RowKit Go.Shelf
set_option linter.unusedVariables false
set_option linter.unusedSimpArgs false
end Go.Proofs.YtpkonifeieepfaaGreat
/-
Plain: the sums from the last conductor on.
-/
namespace Go.Proofs.YtpkonifeieepfaaGreat
open Go.RowKit
set_option linter.unusedVariables false
set_option linter.unusedSimpArgs false
theorem limAt_bd {s : GSite} (hk : OkSite keyL s) (x : Nat) : 0 ≤ limAt s x ∧ limAt s x ≤ 1000 := by
  unfold limAt
  cases e : s.cons[x]? with
  | none => exact ⟨Int.le_refl _, by decide⟩
  | some g => exact limV_bd (hk.okC e)
end Go.Proofs.YtpkonifeieepfaaGreat
