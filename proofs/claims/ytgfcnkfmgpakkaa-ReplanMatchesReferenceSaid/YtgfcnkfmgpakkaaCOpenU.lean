/-
Arguments opened: a list of bytes.
-/
import Derived.Test.YtgfcnkfmgpakkaaGOpen
namespace Go.Proofs.Ytgfcnkfmgpakkaa
open Go.RowKit Go.ChangeShapes Go.WideShapes Go.Deep
def encU (x : Int) : List Value := [.int .u8 x]
variable {H : Type} {henc : TypeId × Value → H} {w : World} {base : Nat} {spare : Nat → Bool} {held : Bool}
set_option maxRecDepth 100000 in
theorem u8s_open {r : Reach} {b0 : Nat} {v : Value} {d : DataW H} {ps : List MemPlace} (hval : Value.okWide Try.prog w r b0 62 v) (hd : DataW.Trod henc Try.prog w base spare held 62 v d ps) :
    ∃ A len cap xs, v = .slice A len cap ∧ xs.length = len ∧ len ≤ maxLen ∧ Rd 1 encU w A xs ∧ ∀ x, x ∈ xs → (Lit.int .u8 x).wf = true := by
  obtain ⟨a, l, c, rfl⟩ := okWide_slice Try.underlying62 hval
  obtain ⟨fuel, hf⟩ := hd
  obtain ⟨A, len, cap, xs, e1, q1, q2, q3, q4⟩ := rd_open (sz := 1) (enc := encU) (ok := fun x => (Lit.int .u8 x).wf = true) Try.underlying62 (by kernel_rfl) (by omega) (fun n cs' y h => by
    obtain ⟨a, e, _, w0⟩ := DataW.trod_int Try.underlying5 h
    exact ⟨a, e, w0⟩) hf
  simp [Value.cells] at e1
  obtain ⟨rfl, rfl, rfl⟩ := e1
  exact ⟨_, _, _, xs, rfl, q1, q2, q3, q4⟩
end Go.Proofs.Ytgfcnkfmgpakkaa
