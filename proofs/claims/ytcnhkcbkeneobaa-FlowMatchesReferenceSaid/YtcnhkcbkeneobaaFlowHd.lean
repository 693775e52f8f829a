/-
Plain: the fixed examples of the laws' first check.
-/
import Derived.Test.YtcnhkcbkeneobaaFlowMath
namespace Go.Proofs.Ytcnhkcbkeneobaa

def gOne : List GEdge := [⟨0, 1, 5⟩, ⟨1, 2, 3⟩]
def gTwo : List GEdge := [⟨0, 1, 5⟩, ⟨0, 2, 4⟩, ⟨1, 3, 2⟩, ⟨2, 3, 9⟩, ⟨1, 2, 9⟩]
theorem gOne_ok : okEnds 3 gOne 0 2 = true := by decide
theorem gTwo_ok : okEnds 4 gTwo 0 3 = true := by decide
theorem gNone_ok : okEnds 2 [] 0 1 = true := by decide

theorem head_one {fl : List Int} {side : List Bool} (hf : IsFlow 3 gOne 0 2 fl) (hc : IsCut 3 0 2 side) (h : capac gOne side = net gOne fl 0) : fl = [3, 3] ∧ side = [true, true, false] := by
  obtain ⟨l, fits, kept⟩ := hf
  obtain ⟨l2, c1, c2⟩ := hc
  match fl, l with
  | [a, b], _ =>
    match side, l2 with
    | [x, y, z], _ =>
      have k1 := kept 1 (by omega) (by omega) (by omega) (by omega)
      have f0 := fits 0 (by decide)
      have f1 := fits 1 (by decide)
      have c1' : x = true := c1
      have c2' : z = false := c2
      subst c1' c2'
      simp [net, gOne, S, term, pick, eAt, fAt] at k1 f0 f1
      cases y
      · simp [capac, net, gOne, S, term, pick, eAt, fAt, crossing, sAt] at h
        omega
      · simp [capac, net, gOne, S, term, pick, eAt, fAt, crossing, sAt] at h
        simp
        omega
theorem most_two : IsMost 4 gTwo 0 3 9 := by
  refine ⟨[5, 4, 2, 7, 3], [true, false, false, false], ⟨rfl, ?_, ?_⟩, ⟨rfl, rfl, rfl⟩, by decide, by decide⟩
  · intro i hi
    match i, hi with
    | 0, _ => decide
    | 1, _ => decide
    | 2, _ => decide
    | 3, _ => decide
    | 4, _ => decide
  · intro u u0 u1 us ut
    have : u = 1 ∨ u = 2 := by omega
    rcases this with rfl | rfl <;> decide
theorem most_none : IsMost 2 [] 0 1 0 := by
  refine ⟨[], [true, false], ⟨rfl, fun i hi => absurd hi (Nat.not_lt_zero _), fun u _ _ _ _ => rfl⟩, ⟨rfl, rfl, rfl⟩, rfl, rfl⟩
end Go.Proofs.Ytcnhkcbkeneobaa
