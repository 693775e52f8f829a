/-
Several texts in one: SiteH, SiteI.
-/
import Derived.Test.YtoekpdnpncgeeaaGreatGLSiteF
import Derived.Test.YtoekpdnpncgeeaaGreatGLSiteV
import Derived.Deep.QuietTactic
import Derived.BigQuiet
import Derived.IntWalk
/-
The reference's Charger and conductor, walked.
-/
namespace Go.Proofs.YtoekpdnpncgeeaaGreat
open Go.RowKit
set_option linter.unusedVariables false
set_option linter.unusedSimpArgs false
def rChgB (c : GChg) : Bool := inside c.ph 1 7 && (inside c.mn 1 80 && (inside c.mx c.mn 80 && (inside c.step 1 80 && ((c.fb == 0) || inside c.fb c.mn c.mx))))
def rUpB (i : Nat) (up : Int) : Bool := if ((i : Int) == 0) then (up == -1) else inside up 0 ((i : Int) - 1)
theorem rUpB_eq (i : Nat) (up : Int) : rUpB i up = okUp i up := by
  unfold rUpB okUp
  rw [Bool.eq_iff_iff]
  by_cases h : i = 0
  · subst h; simp
  · rw [if_neg (by simp; omega), inside_iff]; simp only [decide_eq_true_eq]; omega
def rQ (i : Nat) (c : GCon) : Bool := inside c.limit 1 1000 && (inside c.neutral 1 1000 && rUpB i c.up)
end Go.Proofs.YtoekpdnpncgeeaaGreat
/-
The reference's Valid of a site, walked.
-/
namespace Go.Proofs.YtoekpdnpncgeeaaGreat
open Go.RowKit
set_option linter.unusedVariables false
set_option linter.unusedSimpArgs false
theorem below_drewG {B : Nat} {w w' : World} (n : Nat) (h : Below B w w') : Below B w (w'.drewN n) := ⟨h.os, h.tape, h.output, h.size, h.block⟩
theorem okChg_r (n1 n2 : Nat) (c : GChg) : okChg n1 n2 c = (rChgB c && (inside c.place 0 ((n1 : Int) - 1) && inside c.own 0 ((n2 : Int) - 1))) := by
  rw [Bool.eq_iff_iff]
  unfold okChg rChgB
  simp only [Bool.and_eq_true, Bool.or_eq_true, inside_iff, decide_eq_true_eq, beq_iff_eq]
  omega
end Go.Proofs.YtoekpdnpncgeeaaGreat
