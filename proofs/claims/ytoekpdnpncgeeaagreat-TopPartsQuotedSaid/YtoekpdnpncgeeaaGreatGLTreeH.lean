/-
Several texts in one: TreeH, TreeI.
-/
import Derived.Test.YtoekpdnpncgeeaaGreatGLTreeE
import Derived.Test.YtoekpdnpncgeeaaGreatGBase
import Derived.Laws.EntriesVeiled
/-
tree.Below.
-/
namespace Go.Proofs.YtoekpdnpncgeeaaGreat
open Go.RowKit
set_option linter.unusedVariables false
set_option linter.unusedSimpArgs false
noncomputable def okCo (s : GSite) (co : Int) : Bool := okSB keyL s && decide (0 ≤ co ∧ co < s.cons.length)
def isBel (s : GSite) (co : Int) (i : Nat) : Bool := decide (co ∈ pthI s.cons (placeOf s i))
def belowL (s : GSite) (co : Int) (m : Nat) : List Int := ((List.range m).filter (isBel s co)).map (fun (i : Nat) => (i : Int))
noncomputable def belowO (s : GSite) (co : Int) : List Int := if okCo s co = true then belowL s co s.chgs.length else []
theorem okCo_no1 {s : GSite} {ch : Int} (h : okSB keyL s = false) : okCo s ch = false := by unfold okCo; rw [h]; rfl
theorem okCo_no2 {s : GSite} {ch : Int} (h : ¬ (0 ≤ ch ∧ ch < s.cons.length)) : okCo s ch = false := by unfold okCo; rw [decide_eq_false h, Bool.and_false]
theorem okCo_yes {s : GSite} {ch : Int} (h : okSB keyL s = true) (h2 : 0 ≤ ch ∧ ch < s.cons.length) : okCo s ch = true := by unfold okCo; rw [h, decide_eq_true h2]; rfl
theorem belowO_no {s : GSite} {ch : Int} (h : okCo s ch = false) : belowO s ch = [] := by unfold belowO; rw [h]; rfl
theorem belowO_yes {s : GSite} {ch : Int} (h : okCo s ch = true) : belowO s ch = belowL s ch s.chgs.length := by unfold belowO; rw [if_pos h]
theorem belowL_zero (s : GSite) (co : Int) : belowL s co 0 = [] := rfl
theorem belowL_no {s : GSite} {co : Int} {m : Nat} (h : isBel s co m = false) : belowL s co (m + 1) = belowL s co m := by
  unfold belowL
  rw [List.range_succ, List.filter_append, List.map_append, List.filter_cons_of_neg (by rw [h]; simp)]
  simp
theorem belowL_yes {s : GSite} {co : Int} {m : Nat} (h : isBel s co m = true) : belowL s co (m + 1) = belowL s co m ++ [(m : Int)] := by
  unfold belowL
  rw [List.range_succ, List.filter_append, List.map_append, List.filter_cons_of_pos h]
  simp
theorem belowL_len (s : GSite) (co : Int) (m : Nat) : (belowL s co m).length ≤ m := by
  unfold belowL
  rw [List.length_map]
  exact Nat.le_trans (List.length_filter_le _ _) (by simp)
end Go.Proofs.YtoekpdnpncgeeaaGreat
/-
tree.Below, the whole.
-/
namespace Go.Proofs.YtoekpdnpncgeeaaGreat
open Go.RowKit
set_option linter.unusedVariables false
set_option linter.unusedSimpArgs false
/-- What Below does. -/
def BePost (w : World) (s : GSite) (co : Int) (e : Ending) (w' : World) : Prop := ∃ a c, e = .returned (.tuple #[.slice a (belowO s co).length c, .int .i64 (errO (okCo s co))]) ∧ Rd 1 encI w' a (belowO s co) ∧ Below w.heap.size w w'
/-- The same, and the list is the call's own. -/
def BePostF (w : World) (s : GSite) (co : Int) (e : Ending) (w' : World) : Prop := ∃ a c, e = .returned (.tuple #[.slice a (belowO s co).length c, .int .i64 (errO (okCo s co))]) ∧ Rd 1 encI w' a (belowO s co) ∧ Below w.heap.size w w' ∧ ∀ x, a = some x → w.heap.size ≤ x.block
structure SBox (w W : World) (a1 : Option Addr) (n1 c1 : Nat) (a2 : Option Addr) (n2 c2 : Nat) (a3 : Option Addr) (n3 c3 : Nat) (a4 : Option Addr) (n4 c4 : Nat) (a5 : Option Addr) (n5 c5 : Nat) (co : Int) : Prop where
  k0 : W.cell? ⟨w.heap.size, 0, none⟩ = some (.slice a1 n1 c1)
  k1 : W.cell? ⟨w.heap.size, 1, none⟩ = some (.slice a2 n2 c2)
  k2 : W.cell? ⟨w.heap.size, 2, none⟩ = some (.slice a3 n3 c3)
  k3 : W.cell? ⟨w.heap.size, 3, none⟩ = some (.slice a4 n4 c4)
  k4 : W.cell? ⟨w.heap.size, 4, none⟩ = some (.slice a5 n5 c5)
  kc : W.cell? ⟨w.heap.size + 1, 0, none⟩ = some (.int .i64 co)
theorem SBox.mod {w W W' : World} {a1 : Option Addr} {n1 c1 : Nat} {a2 : Option Addr} {n2 c2 : Nat} {a3 : Option Addr} {n3 c3 : Nat} {a4 : Option Addr} {n4 c4 : Nat} {a5 : Option Addr} {n5 c5 : Nat} {co : Int} (h : SBox w W a1 n1 c1 a2 n2 c2 a3 n3 c3 a4 n4 c4 a5 n5 c5 co) {M : Nat → Prop} (hm : Mod M W W') (h0 : ¬ M w.heap.size) (h1 : ¬ M (w.heap.size + 1)) : SBox w W' a1 n1 c1 a2 n2 c2 a3 n3 c3 a4 n4 c4 a5 n5 c5 co := by
  have l0 := World.block_lt_of_cell? W _ h.k0
  have la := World.block_lt_of_cell? W _ h.kc
  dsimp only at l0 la
  exact ⟨(hm.cell (p := ⟨w.heap.size, 0, none⟩) l0 h0).trans h.k0, (hm.cell (p := ⟨w.heap.size, 1, none⟩) l0 h0).trans h.k1, (hm.cell (p := ⟨w.heap.size, 2, none⟩) l0 h0).trans h.k2, (hm.cell (p := ⟨w.heap.size, 3, none⟩) l0 h0).trans h.k3, (hm.cell (p := ⟨w.heap.size, 4, none⟩) l0 h0).trans h.k4, (hm.cell (p := ⟨w.heap.size + 1, 0, none⟩) la h1).trans h.kc⟩
theorem SBox.keep {w W W' : World} {a1 : Option Addr} {n1 c1 : Nat} {a2 : Option Addr} {n2 c2 : Nat} {a3 : Option Addr} {n3 c3 : Nat} {a4 : Option Addr} {n4 c4 : Nat} {a5 : Option Addr} {n5 c5 : Nat} {co : Int} (h : SBox w W a1 n1 c1 a2 n2 c2 a3 n3 c3 a4 n4 c4 a5 n5 c5 co) (hb : Below W.heap.size W W') : SBox w W' a1 n1 c1 a2 n2 c2 a3 n3 c3 a4 n4 c4 a5 n5 c5 co := by
  have l0 := World.block_lt_of_cell? W _ h.k0
  have la := World.block_lt_of_cell? W _ h.kc
  dsimp only at l0 la
  exact h.mod (Mod.of_below hb) (by omega) (by omega)
end Go.Proofs.YtoekpdnpncgeeaaGreat
