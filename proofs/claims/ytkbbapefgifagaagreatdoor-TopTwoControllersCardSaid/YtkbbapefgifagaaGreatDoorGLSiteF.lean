/-
Several texts in one: SiteF, SiteG0, SiteG.
-/
import Derived.Test.YtkbbapefgifagaaGreatDoorGLSiteV
import Derived.Test.YtkbbapefgifagaaGreatDoorGLSiteR
import Derived.Test.YtkbbapefgifagaaGreatDoorGBase
/-
The reference's names; walked.
-/
namespace Go.Proofs.YtkbbapefgifagaaGreatDoor
open Go.RowKit
set_option linter.unusedVariables false
set_option linter.unusedSimpArgs false
end Go.Proofs.YtkbbapefgifagaaGreatDoor
/-
The drawn region of the reference's names.
-/
namespace Go.Proofs.YtkbbapefgifagaaGreatDoor
open Go.RowKit
set_option linter.unusedVariables false
set_option linter.unusedSimpArgs false
end Go.Proofs.YtkbbapefgifagaaGreatDoor
/-
The reference's names, walked.
-/
namespace Go.Proofs.YtkbbapefgifagaaGreatDoor
open Go.RowKit
set_option linter.unusedVariables false
set_option linter.unusedSimpArgs false
end Go.Proofs.YtkbbapefgifagaaGreatDoor
