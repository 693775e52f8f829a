/-
An argument opened: the turns of two controllers.
-/
import Derived.Test.YtkbbapefgifagaaGreatDoorCOpen
import Derived.Test.YtkbbapefgifagaaGreatDoorCTwZF
import Derived.Test.YtkbbapefgifagaaGreatDoorProg
import Derived.Deep.Strs
import Derived.OpenShut
namespace Go.Proofs.YtkbbapefgifagaaGreatDoor
open Go.RowKit Go.ChangeShapes Go.WideShapes Go.Deep
set_option linter.unusedVariables false
set_option linter.unusedSimpArgs false
section
variable {H : Type} {henc : TypeId × Value → H} {w : World} {base : Nat} {spare : Nat → Bool} {held : Bool}
theorem trodR3 {P : Program} {t : TypeId} {f0 f1 f2 : Field} {fuel : Nat} {cs : List Value} {x : DataW H × List MemPlace} (ht : P.underlying t = some (.struct #[f0, f1, f2])) (h : DataW.trod henc P w base spare held fuel t cs = some x) :
    ∃ y0 y1 y2 n, cs.length = P.cellsOf t ∧ DataW.trod henc P w base spare held n f0.type ((cs.drop f0.offset).take (P.cellsOf f0.type)) = some y0 ∧ DataW.trod henc P w base spare held n f1.type ((cs.drop f1.offset).take (P.cellsOf f1.type)) = some y1 ∧ DataW.trod henc P w base spare held n f2.type ((cs.drop f2.offset).take (P.cellsOf f2.type)) = some y2 := by
  obtain ⟨xs, n, _, rfl, hl, hlen, hf⟩ := DataW.trod_struct ht h
  match xs, hlen with
  | [y0, y1, y2], _ => exact ⟨y0, y1, y2, n, hl, by simpa using hf 0 f0 rfl, by simpa using hf 1 f1 rfl, by simpa using hf 2 f2 rfl⟩
set_option maxRecDepth 100000 in
theorem turn_cells {n : Nat} {cs : List Value} {y : DataW H × List MemPlace} (h : DataW.trod henc Tryz.prog w base spare held n 28 cs = some y) : ∃ a : Trn7, cs = encTn a ∧ ((0 ≤ a.what ∧ a.what ≤ 255) ∧ (0 ≤ a.pick ∧ a.pick ≤ 255)) := by
  obtain ⟨y0, y1, y2, m, hl, h0, h1, h2⟩ := trodR3 Tryz.underlying28 h
  have hl1 : cs.length = 3 := hl.trans (by kernel_rfl)
  match cs, hl1 with
  | [c0, c1, c2], _ =>
    obtain ⟨a0, e0, _, w0⟩ := DataW.trod_int Tryz.underlying5 h0
    obtain ⟨a1, e1, _⟩ := DataW.trod_bool Tryz.underlying4 h1
    obtain ⟨a2, e2, _, w2⟩ := DataW.trod_int Tryz.underlying5 h2
    have g : Tryz.prog.cellsOf 5 = 1 := by kernel_rfl
    have gb : Tryz.prog.cellsOf 4 = 1 := by kernel_rfl
    simp [g, gb] at e0 e1 e2
    subst e0 e1 e2
    exact ⟨⟨a0, a1, a2⟩, rfl, bounds_u8 w0, bounds_u8 w2⟩
set_option maxRecDepth 100000 in
theorem turns_open {r : Reach} {b0 : Nat} {v : Value} {d : DataW H} {ps : List MemPlace} (hval : Value.okWide Tryz.prog w r b0 22 v) (hd : DataW.Trod henc Tryz.prog w base spare held 22 v d ps) :
    ∃ A len cap xs, v = .slice A len cap ∧ xs.length = len ∧ Rd 3 encTn w A xs ∧ ∀ t ∈ xs, (0 ≤ t.what ∧ t.what ≤ 255) ∧ (0 ≤ t.pick ∧ t.pick ≤ 255) := by
  obtain ⟨a, l, c, rfl⟩ := okWide_slice Tryz.underlying22 hval
  obtain ⟨fuel, hf⟩ := hd
  obtain ⟨A, len, cap, xs, e1, q1, q2, q3, q4⟩ := rd_open (sz := 3) (enc := encTn) (ok := fun a => (0 ≤ a.what ∧ a.what ≤ 255) ∧ (0 ≤ a.pick ∧ a.pick ≤ 255)) Tryz.underlying22 (by kernel_rfl) (by omega) (fun n cs' y h => turn_cells h) hf
  simp [Value.cells] at e1
  obtain ⟨rfl, rfl, rfl⟩ := e1
  exact ⟨_, _, _, xs, rfl, q1, q3, q4⟩
end
end Go.Proofs.YtkbbapefgifagaaGreatDoor
