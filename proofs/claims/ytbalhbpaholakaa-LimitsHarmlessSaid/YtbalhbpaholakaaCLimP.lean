/-
LimitsFirst, walked.
-/
import Derived.Test.YtbalhbpaholakaaCLimN
import Derived.Test.YtbalhbpaholakaaCLimO
namespace Go.Proofs.Ytbalhbpaholakaa
open Go.RowKit
set_option linter.unusedVariables false
set_option linter.unusedSimpArgs false
/-- The box of a violation. -/
def VBox (W : World) (b : Nat) (v0 v1 v2 : Int) : Prop := W.cell? ⟨b, 0, none⟩ = some (.int .i64 v0) ∧ W.cell? ⟨b, 1, none⟩ = some (.int .i64 v1) ∧ W.cell? ⟨b, 2, none⟩ = some (.int .i64 v2)
theorem VBox.keep {W W' : World} {b : Nat} {v0 v1 v2 : Int} (h : VBox W b v0 v1 v2) (hb : Below W.heap.size W W') : VBox W' b v0 v1 v2 :=
  have l := World.block_lt_of_cell? W _ h.1
  ⟨(hb.cell (p := ⟨b, 0, none⟩) l).trans h.1, (hb.cell (p := ⟨b, 1, none⟩) l).trans h.2.1, (hb.cell (p := ⟨b, 2, none⟩) l).trans h.2.2⟩
theorem VBox.new (W : World) (t : TypeId) (v0 v1 v2 : Int) : VBox (W.alloc (.cells #[.int .i64 v0, .int .i64 v1, .int .i64 v2] t)) W.heap.size v0 v1 v2 := ⟨by go_simp, by go_simp, by go_simp⟩
end Go.Proofs.Ytbalhbpaholakaa
