/-
A slice that came in: its length is at most its capacity.
-/
import Derived.Test.YtickndjlhokppaaGOpen
namespace Go.Proofs.Ytickndjlhokppaa
open Go.RowKit Go.ChangeShapes Go.WideShapes Go.Deep
theorem cap_rows {H : Type} {henc : TypeId × Value → H} {P : Program} {w : World} {base : Nat} {spare : Nat → Bool} {held : Bool} {t e : TypeId} {d : DataW H} {A : Option Addr} {len cap : Nat} {ps : List MemPlace} (hu : P.underlying t = some (.slice e)) (h : DataW.Trod henc P w base spare held t (.slice A len cap) d ps) :
    len ≤ cap ∧ cap ≤ 9223372036854775807 := by
  obtain ⟨fuel, hf⟩ := h
  rcases open_slice hu hf with ⟨h0, _⟩ | ⟨a, len', cap', m, n, D, Pl, hcs, _, hl, hm, _⟩
  · simp [Value.cells] at h0
    omega
  · simp [Value.cells] at hcs
    obtain ⟨_, rfl, rfl⟩ := hcs
    unfold maxLen at hm
    omega
end Go.Proofs.Ytickndjlhokppaa
