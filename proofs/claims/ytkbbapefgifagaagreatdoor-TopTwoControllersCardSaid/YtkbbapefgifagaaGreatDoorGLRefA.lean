/-
Several texts in one: RefA, RefB.
-/
import Derived.Test.YtkbbapefgifagaaGreatDoorGLTreeH
import Derived.Test.YtkbbapefgifagaaGreatDoorGLSiteH
import Derived.ChangeKeysEq
/-
The reference: Few, Ints, On, Uses, Currents, Same.
-/
namespace Go.Proofs.YtkbbapefgifagaaGreatDoor
open Go.RowKit
set_option linter.unusedVariables false
set_option linter.unusedSimpArgs false
end Go.Proofs.YtkbbapefgifagaaGreatDoor
/-
The reference: On, Uses, Currents.
-/
namespace Go.Proofs.YtkbbapefgifagaaGreatDoor
open Go.RowKit
set_option linter.unusedVariables false
set_option linter.unusedSimpArgs false
end Go.Proofs.YtkbbapefgifagaaGreatDoor
