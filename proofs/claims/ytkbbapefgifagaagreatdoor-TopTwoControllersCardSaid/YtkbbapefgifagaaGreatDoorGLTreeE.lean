/-
Several texts in one: TreeE, TreeMath2, RegT, TreeF, TreeG.
-/
import Derived.Test.YtkbbapefgifagaaGreatDoorGLTreeA
import Derived.IntWalk
import Derived.Test.YtkbbapefgifagaaGreatDoorGBase
import Derived.StillTailTactics
/-
tree.add.
-/
namespace Go.Proofs.YtkbbapefgifagaaGreatDoor
open Go.RowKit
set_option linter.unusedVariables false
set_option linter.unusedSimpArgs false
/-- Does a charger use a phase? -/
def bitP (ph : Int) (p : Nat) : Bool := decide ((ph / (2 ^ p : Nat)) % 2 = 1)
theorem bits_ph {ph : Int} {p : Nat} (hph : 0 ≤ ph ∧ ph ≤ 7) (hp : p < 3) : (bits BinOp.and IntKind.i64 ph (wrap64 (2 ^ p)) != 0) = bitP ph p := by
  have h : ∀ q : Fin 8, ∀ p : Fin 3, (bits BinOp.and IntKind.i64 ((q.val : Nat) : Int) (wrap64 (2 ^ p.val)) != 0) = bitP ((q.val : Nat) : Int) p.val := by decide +kernel
  have e := h ⟨ph.toNat, by omega⟩ ⟨p, hp⟩
  dsimp only at e
  rw [show ((ph.toNat : Nat) : Int) = ph by omega] at e
  exact e
end Go.Proofs.YtkbbapefgifagaaGreatDoor
/-
Plain: the loads. No program in sight.
-/
namespace Go.Proofs.YtkbbapefgifagaaGreatDoor
set_option linter.unusedVariables false
set_option linter.unusedSimpArgs false
def fI (xs : List Int) (i : Nat) : Int := xs[i]?.getD 0
def phOf (s : GSite) (i : Nat) : Int := (s.chgs[i]?.map GChg.ph).getD 0
abbrev R3 : Type := Int × Int × Int
def enc3 (r : R3) : List Value := [.int .i64 r.1, .int .i64 r.2.1, .int .i64 r.2.2]
def row3 (f : Nat → Int) (k : Nat) : R3 := (f (k * 3), f (k * 3 + 1), f (k * 3 + 2))
end Go.Proofs.YtkbbapefgifagaaGreatDoor
/-
A region whose order is drawn, inside a round of a wide fence, where all operations but a last few are still, and those come up in one order.
-/
namespace Go.Proofs.YtkbbapefgifagaaGreatDoor
end Go.Proofs.YtkbbapefgifagaaGreatDoor
/-
tree.Loads.
-/
namespace Go.Proofs.YtkbbapefgifagaaGreatDoor
open Go.RowKit Go.Shelf
attribute [local go_sem] Oper.semAt_some
set_option linter.unusedVariables false
set_option linter.unusedSimpArgs false
theorem Own.cellsAt {w : World} {g : Nat} {t : TypeId} {n : Nat} {f : Nat → Value} (h : Own w g t n f) {o : Obj} (ho : w.heap[g]? = some o) : o.isCells = true := by
  obtain ⟨cs, hb, _, _⟩ := h
  rw [hb] at ho
  cases ho
  rfl
theorem keepsFrom_mod1 {M : Nat → Prop} {W W' : World} (h : Mod M W W') (B : Nat) (hM : ∀ k, M k → ∀ o, W.heap[k]? = some o → o.isCells = true) : KeepsFrom B W W' :=
  ⟨h.size, fun k o _ hk ho => (h.block k (Array.getElem?_eq_some_iff.1 hk).1 (fun hm => by have := hM k hm o hk; rw [ho] at this; cases this)).trans hk⟩
/-- Marks that lie below m0. -/
def MarksB (B m0 : Nat) (W : World) (ds : List Deferred) : Prop := Marks B W ds ∧ ∀ d, d ∈ ds → ∃ D, d.target = .collected D ∧ D < m0
theorem MarksB.nc {B m0 : Nat} {W W' : World} {ds : List Deferred} (h : MarksB B m0 W ds) (hn : Nc m0 W W') : MarksB B m0 W' ds := by
  obtain ⟨⟨Ds, e, hd, hD⟩, hl⟩ := h
  obtain ⟨row, hg, hr⟩ := hn
  refine ⟨⟨Ds, e, hd, fun D hm => ⟨(hD D hm).1, Nat.lt_of_lt_of_le (hD D hm).2.1 hg.size, ?_⟩⟩, hl⟩
  rw [hg.block D (hD D hm).2.1 ?_]
  · exact (hD D hm).2.2
  · intro e2
    have h1 := (hr D e2.symm).1
    obtain ⟨D', e3, h3⟩ := hl ⟨.collected D, #[]⟩ (by rw [e]; exact List.mem_map.2 ⟨D, hm, rfl⟩)
    injection e3 with e3
    omega
end Go.Proofs.YtkbbapefgifagaaGreatDoor
/-
tree.Loads, the whole.
-/
namespace Go.Proofs.YtkbbapefgifagaaGreatDoor
open Go.RowKit Go.Shelf
attribute [local go_sem] Oper.semAt_some
set_option linter.unusedVariables false
set_option linter.unusedSimpArgs false
end Go.Proofs.YtkbbapefgifagaaGreatDoor
