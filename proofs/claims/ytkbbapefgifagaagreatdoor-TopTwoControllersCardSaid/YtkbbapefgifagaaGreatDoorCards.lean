/-
  DERIVED. GIVEN WITH THE SEED: THE CARDS: each row of YtkbbapefgifagaaGreatDoorRows.lean that lists a variable, with what it lists TIED to the program's text (the seventh form; the later family's looks); each row that meets fmt, with fmt's text TOLD by the authors' own Lean function (tested against real Go, not proved from fmt's source: count such statements apart). THE CARD IS WHAT COUNTS. Prove the row's statement (the work); the ties are given (YtkbbapefgifagaaGreatDoorTie.lean); close each card by the builder's one call (the guide's Derived/Test/ToyasCard.lean, 'card_holds'). Laid BY PROGRAM, IN A SANDBOX (cutbox-door.mjs). By AI agents, Wed Nov 11 2026. No macro, syntax, notation, axiom, sorry.
-/
import Derived.Test.YtkbbapefgifagaaGreatDoorRows
import GoSem.ClaimSeven
namespace Go.Proofs.YtkbbapefgifagaaGreatDoor
namespace Rows

/-- THE TIED CARD OF 'chargeparktop.TopTwoControllers'. -/
def topTwoControllersCard : Claim7 := { stood := { row := topTwoControllersRow, standIns := [], harness := (true, "67deb0439d9a81cb78297f4d2d1a9144ad088b61ca410e75a0e7ac152e2bd672"), looks := false }, kinds := [], alts := [], laidByText := true, laidKinds := [.data, .data], laidTests := true, laidLooks := .later }
def TopTwoControllersCardSaid : Prop := Claim7.holds Tryz.pinned (.plain (OpenSpec.ofChange topTwoControllersSpec)) topTwoControllersCard

/-- THE SECOND FORM's CARD OF 'chargeparktop.TopTwoControllers'. -/
def topTwoControllersUptoCard : Claim7 := { stood := { row := topTwoControllersUptoRow, standIns := [], harness := (true, "67deb0439d9a81cb78297f4d2d1a9144ad088b61ca410e75a0e7ac152e2bd672"), looks := false }, kinds := [], alts := [], laidByText := true, laidKinds := [.data, .data], laidTests := true, laidLooks := .later }
def TopTwoControllersUptoCardSaid : Prop := Claim7.holds Tryz.pinned (.plain (OpenSpec.upto topTwoControllersSpec)) topTwoControllersUptoCard
end Rows
end Go.Proofs.YtkbbapefgifagaaGreatDoor
