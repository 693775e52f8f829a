/-
Arguments opened: a slice of truth values.
-/
import Derived.Test.YtbjmpfchapggfaaGLOpen
import Derived.Test.YtbjmpfchapggfaaProg
import Derived.Deep.Strs
namespace Go.Proofs.Ytbjmpfchapggfaa
open Go.RowKit Go.ChangeShapes Go.WideShapes Go.Deep
section
variable {H : Type} {henc : TypeId × Value → H} {w : World} {base : Nat} {spare : Nat → Bool} {held : Bool}
set_option maxRecDepth 100000 in
theorem bools_open {r : Reach} {b0 : Nat} {v : Value} {d : DataW H} {ps : List MemPlace} (hval : Value.okWide Try.prog w r b0 50 v) (hd : DataW.Trod henc Try.prog w base spare held 50 v d ps) :
    ∃ A len cap xs, v = .slice A len cap ∧ xs.length = len ∧ len ≤ maxLen ∧ Rd 1 encB w A xs := by
  obtain ⟨a, l, c, rfl⟩ := okWide_slice Try.underlying50 hval
  obtain ⟨fuel, hf⟩ := hd
  obtain ⟨A, len, cap, xs, e1, q1, q2, q3, q4⟩ := rd_open (sz := 1) (enc := encB) (ok := fun _ => True) Try.underlying50 (by kernel_rfl) (by omega) (fun n cs' y h => by
    obtain ⟨a, e, _⟩ := DataW.trod_bool Try.underlying4 h
    exact ⟨a, e, trivial⟩) hf
  simp [Value.cells] at e1
  obtain ⟨rfl, rfl, rfl⟩ := e1
  exact ⟨_, _, _, xs, rfl, q1, q2, q3⟩
end
end Go.Proofs.Ytbjmpfchapggfaa
