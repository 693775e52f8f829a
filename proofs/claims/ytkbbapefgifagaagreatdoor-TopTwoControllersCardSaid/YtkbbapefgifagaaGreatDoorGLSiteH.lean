/-
Several texts in one: SiteH, SiteI.
-/
import Derived.Test.YtkbbapefgifagaaGreatDoorGLSiteF
import Derived.Test.YtkbbapefgifagaaGreatDoorGLSiteV
import Derived.Deep.QuietTactic
import Derived.BigQuiet
import Derived.IntWalk
/-
The reference's Charger and conductor, walked.
-/
namespace Go.Proofs.YtkbbapefgifagaaGreatDoor
open Go.RowKit
set_option linter.unusedVariables false
set_option linter.unusedSimpArgs false
end Go.Proofs.YtkbbapefgifagaaGreatDoor
/-
The reference's Valid of a site, walked.
-/
namespace Go.Proofs.YtkbbapefgifagaaGreatDoor
open Go.RowKit
set_option linter.unusedVariables false
set_option linter.unusedSimpArgs false
theorem below_drewG {B : Nat} {w w' : World} (n : Nat) (h : Below B w w') : Below B w (w'.drewN n) := ⟨h.os, h.tape, h.output, h.size, h.block⟩
end Go.Proofs.YtkbbapefgifagaaGreatDoor
