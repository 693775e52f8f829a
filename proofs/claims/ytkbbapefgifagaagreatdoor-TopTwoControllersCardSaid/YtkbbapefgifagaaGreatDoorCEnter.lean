/-
Three closed facts of the whole program, proved once for all laws: what its first word says.
-/
import Derived.Test.YtkbbapefgifagaaGreatDoorRows
import Derived.Test.YtkbbapefgifagaaGreatDoorChecked
import Derived.WalkKit
import Derived.ProofKit
import Derived.JoinedOf
namespace Go.Proofs.YtkbbapefgifagaaGreatDoor
open Go.RowKit
theorem enter_ok : Tryz.pinned.checked.prog.mayEnter = true := by kernel_rfl
theorem lift_ok : Tryz.pinned.checked.prog.liftsFinal = false := by kernel_rfl
theorem make_ok : Tryz.pinned.checked.prog.make = some .cut := by kernel_rfl
end Go.Proofs.YtkbbapefgifagaaGreatDoor
