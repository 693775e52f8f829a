/-
Several texts in one: RefD0, RefD.
-/
import Derived.Test.YtoekpdnpncgeeaaGreatGLRefA
import Derived.IntWalk
/-
The guarded drawn region of the reference's Loads.
-/
namespace Go.Proofs.YtoekpdnpncgeeaaGreat
open Go.RowKit
set_option linter.unusedVariables false
set_option linter.unusedSimpArgs false
theorem onB_eq (s : GSite) (i k p : Nat) : onB s i k p = (bitP (phOf s i) p && decide (((k : Nat) : Int) ∈ pthI s.cons (placeOf s i))) := by
  unfold onB pthI
  congr 1
  rw [decide_eq_decide]
  constructor
  · intro h; exact List.mem_map.2 ⟨k, h, rfl⟩
  · intro h
    obtain ⟨x, hx, e⟩ := List.mem_map.1 h
    have : x = k := by omega
    rw [← this]; exact hx
end Go.Proofs.YtoekpdnpncgeeaaGreat
/-
The reference: Loads.
-/
namespace Go.Proofs.YtoekpdnpncgeeaaGreat
open Go.RowKit
set_option linter.unusedVariables false
set_option linter.unusedSimpArgs false
/-- The loads in the middle of the reference's three loops. -/
def gL (s : GSite) (am : Nat → Int) (n k i p j : Nat) : Int := if j / 3 < k then loadS s am n j else if j / 3 = k then loadS s am (if j % 3 < p then i + 1 else i) j else 0
theorem gL_zero (s : GSite) (am : Nat → Int) (n j : Nat) : gL s am n 0 0 0 j = 0 := by
  unfold gL
  rw [if_neg (by omega)]
  by_cases h : j / 3 = 0
  · rw [if_pos h, if_neg (by omega)]; rfl
  · rw [if_neg h]
theorem gL_at (s : GSite) (am : Nat → Int) (n k i p : Nat) (hp : p < 3) : gL s am n k i p (k * 3 + p) = loadS s am i (k * 3 + p) := by
  unfold gL
  rw [if_neg (by omega), if_pos (by omega), if_neg (by omega)]
theorem loadS_succ (s : GSite) (am : Nat → Int) (i j : Nat) : loadS s am (i + 1) j = loadS s am i j + pick (onB s i (j / 3) (j % 3) = true) (am i) := by unfold loadS; rw [S_succ]
theorem gL_no {s : GSite} {am : Nat → Int} {n k i p : Nat} (hp : p < 3) (h : onB s i k p = false) (j : Nat) : gL s am n k i (p + 1) j = gL s am n k i p j := by
  unfold gL
  by_cases h1 : j / 3 < k
  · rw [if_pos h1, if_pos h1]
  rw [if_neg h1, if_neg h1]
  by_cases h2 : j / 3 = k
  · rw [if_pos h2, if_pos h2]
    by_cases h3 : j % 3 = p
    · rw [if_pos (by omega), if_neg (by omega), loadS_succ, h2, h3, pick_neg (by rw [h]; simp), Int.add_zero]
    · by_cases h4 : j % 3 < p
      · rw [if_pos (by omega), if_pos h4]
      · rw [if_neg (by omega), if_neg h4]
  · rw [if_neg h2, if_neg h2]
theorem gL_yes {s : GSite} {am : Nat → Int} {n k i p : Nat} (hp : p < 3) (h : onB s i k p = true) (j : Nat) : gL s am n k i (p + 1) j = if j = k * 3 + p then loadS s am i (k * 3 + p) + am i else gL s am n k i p j := by
  by_cases e : j = k * 3 + p
  · subst e
    rw [if_pos rfl]
    unfold gL
    rw [if_neg (by omega), if_pos (by omega), if_pos (by omega), loadS_succ, show (k * 3 + p) / 3 = k by omega, show (k * 3 + p) % 3 = p by omega, pick_pos h]
  · rw [if_neg e]
    unfold gL
    by_cases h1 : j / 3 < k
    · rw [if_pos h1, if_pos h1]
    rw [if_neg h1, if_neg h1]
    by_cases h2 : j / 3 = k
    · rw [if_pos h2, if_pos h2]
      by_cases h4 : j % 3 < p
      · rw [if_pos (by omega), if_pos h4]
      · rw [if_neg (by omega), if_neg h4]
    · rw [if_neg h2, if_neg h2]
theorem gL_three (s : GSite) (am : Nat → Int) (n k i j : Nat) : gL s am n k i 3 j = gL s am n k (i + 1) 0 j := by
  unfold gL
  rw [if_pos (show j % 3 < 3 by omega), if_neg (show ¬ j % 3 < 0 by omega)]
theorem gL_row (s : GSite) (am : Nat → Int) (n k j : Nat) : gL s am n k n 0 j = gL s am n (k + 1) 0 0 j := by
  unfold gL
  rw [if_neg (show ¬ j % 3 < 0 by omega), if_neg (show ¬ j % 3 < 0 by omega)]
  by_cases h1 : j / 3 < k
  · rw [if_pos h1, if_pos (by omega)]
  rw [if_neg h1]
  by_cases h2 : j / 3 = k
  · rw [if_pos h2, if_pos (by omega)]
  · rw [if_neg h2, if_neg (by omega)]
    by_cases h3 : j / 3 = k + 1
    · rw [if_pos h3]; rfl
    · rw [if_neg h3]
theorem gL_end (s : GSite) (am : Nat → Int) (n m j : Nat) (hj : j < m * 3) : gL s am n m 0 0 j = loadS s am n j := by
  unfold gL
  rw [if_pos (by omega)]
end Go.Proofs.YtoekpdnpncgeeaaGreat
