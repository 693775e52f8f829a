/-
Several texts in one: RefA, RefB.
-/
import Derived.Test.YtoekpdnpncgeeaaGreatGLTreeH
import Derived.Test.YtoekpdnpncgeeaaGreatGLSiteH
import Derived.ChangeKeysEq
/-
The reference: Few, Ints, On, Uses, Currents, Same.
-/
namespace Go.Proofs.YtoekpdnpncgeeaaGreat
open Go.RowKit
set_option linter.unusedVariables false
set_option linter.unusedSimpArgs false
def fewS (s : GSite) : Bool := decide (s.cons.length ≤ 40) && decide (s.owns.length ≤ 40) && decide (s.ctrs.length ≤ 40) && decide (s.chgs.length ≤ 40) && decide (s.bays.length ≤ 40)
theorem take_eq_succ {α : Type} {xs ys : List α} {k : Nat} {x y : α} (hx : xs[k]? = some x) (hy : ys[k]? = some y) (h : xs.take k = ys.take k) (e : x = y) : xs.take (k + 1) = ys.take (k + 1) := by
  rw [take_snoc hx, take_snoc hy, h, e]
theorem cellsInt : Tryz.prog.cellsOf 3 = 1 := by kernel_rfl
end Go.Proofs.YtoekpdnpncgeeaaGreat
/-
The reference: On, Uses, Currents.
-/
namespace Go.Proofs.YtoekpdnpncgeeaaGreat
open Go.RowKit
set_option linter.unusedVariables false
set_option linter.unusedSimpArgs false
theorem bit_t0 {ph : Int} (hph : 0 ≤ ph ∧ ph ≤ 7) : (ph % 2 == 1) = bitP ph 0 := by
  have h : ∀ q : Fin 8, (((q.val : Nat) : Int) % 2 == 1) = bitP ((q.val : Nat) : Int) 0 := by decide +kernel
  have e := h ⟨ph.toNat, by omega⟩
  dsimp only at e
  rw [show ((ph.toNat : Nat) : Int) = ph by omega] at e
  exact e
theorem bit_t1 {ph : Int} (hph : 0 ≤ ph ∧ ph ≤ 7) : (ph / 2 % 2 == 1) = bitP ph 1 := by
  have h : ∀ q : Fin 8, (((q.val : Nat) : Int) / 2 % 2 == 1) = bitP ((q.val : Nat) : Int) 1 := by decide +kernel
  have e := h ⟨ph.toNat, by omega⟩
  dsimp only at e
  rw [show ((ph.toNat : Nat) : Int) = ph by omega] at e
  exact e
theorem bit_t2 {ph : Int} (hph : 0 ≤ ph ∧ ph ≤ 7) : (ph / 4 % 2 == 1) = bitP ph 2 := by
  have h : ∀ q : Fin 8, (((q.val : Nat) : Int) / 4 % 2 == 1) = bitP ((q.val : Nat) : Int) 2 := by decide +kernel
  have e := h ⟨ph.toNat, by omega⟩
  dsimp only at e
  rw [show ((ph.toNat : Nat) : Int) = ph by omega] at e
  exact e
theorem pthI_cons {cs : List GCon} (hu : OkUps cs) {k : Nat} (hk : k < cs.length) {g : GCon} (hg : cs[k]? = some g) : pthI cs k = (k : Int) :: (pth cs g.up).map (fun (k : Nat) => (k : Int)) := by
  unfold pthI
  rw [pth_one (c := 0) hu hk hg]
  rfl
end Go.Proofs.YtoekpdnpncgeeaaGreat
