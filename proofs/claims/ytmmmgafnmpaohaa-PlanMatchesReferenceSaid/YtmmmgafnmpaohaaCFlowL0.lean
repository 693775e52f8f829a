/-
The search for a way: its state in memory.
-/
import Derived.Test.YtmmmgafnmpaohaaGFlowI
import Derived.WalkMore
namespace Go.Proofs.Ytmmmgafnmpaohaa
open Go.RowKit Go.Shelf

theorem infoBool : (Try.prog.info? 4).map (fun i => (i.zero, i.size, i.bytes)) = some (some (.bool false), 1, 1) := by kernel_rfl
theorem infoStep : (Try.prog.info? 107).map (fun i => (i.zero, i.size, i.bytes)) = some (some (.agg #[.int .i64 0, .int .i64 0, .int .i64 0, .bool false]), 4, 32) := by kernel_rfl

def stCell (st : List GStep) (j : Nat) : Value :=
  if j % 4 = 0 then .int .i64 (st[j / 4]?.getD default).edge else if j % 4 = 1 then .int .i64 (st[j / 4]?.getD default).dst else if j % 4 = 2 then .int .i64 (st[j / 4]?.getD default).room else .bool (st[j / 4]?.getD default).fwd

/-- The search's own memory. -/
structure SMem (W : World) (b5 b8 b9 bq gs gb B nn : Nat) (t : Int) (v : Value) (seen : List Bool) (st : List GStep) (xs : List Int) (h : Nat) : Prop where
  k5 : Own W b5 3 1 (fun _ => .int .i64 t)
  k8 : Own W b8 65 1 (fun _ => .slice (some ⟨gs, 0, none⟩) nn nn)
  k9 : Own W b9 88 1 (fun _ => .slice (some ⟨gb, 0, none⟩) nn nn)
  sn : Own W gs 4 nn (fun i => .bool (seen[i]?.getD false))
  by_ : Own W gb 107 (nn * 4) (stCell st)
  qu : Queue W bq B v xs h
  l5 : b5 < B

theorem made_step (W : World) (nn g : Nat) (hg : W.heap.size = g) : Own (W.alloc (.cells (madeCells #[.int .i64 0, .int .i64 0, .int .i64 0, .bool false] (nn * 4)) 107)) g 107 (nn * 4) (stCell (List.replicate nn default)) := by
  subst hg
  refine (Own.made W 107 _ (nn * 4)).congr (fun i hi => ?_)
  have h4 : i / 4 < nn := by omega
  unfold stCell
  rw [List.getElem?_replicate, if_pos h4]
  have : i % 4 < 4 := Nat.mod_lt _ (by omega)
  generalize i % 4 = r at *
  match r, this with
  | 0, _ => rfl
  | 1, _ => rfl
  | 2, _ => rfl
  | 3, _ => rfl

theorem one_cell (v : Value) : ∀ i, i < 1 → (#[v] : Array Value)[i]? = some ((fun _ : Nat => v) i) := by
  intro i hi
  obtain rfl : i = 0 := by omega
  rfl
theorem queue_cells (v : Value) : ∀ i, i < 2 → (#[v, Value.int .i64 0] : Array Value)[i]? = some (queueCell v (0 : Nat) i) := by
  intro i hi
  match i, hi with
  | 0, _ => rfl
  | 1, _ => rfl
def SearchPost (R : World → List Bool → List GStep → Prop) (w : World) (nn : Nat) (e : Ending) (w' : World) : Prop :=
  ∃ gs gb seen st, e = .returned (.tuple #[.slice (some ⟨gs, 0, none⟩) nn nn, .slice (some ⟨gb, 0, none⟩) nn nn]) ∧ Own w' gs 4 nn (fun i => .bool (seen[i]?.getD false)) ∧ Own w' gb 107 (nn * 4) (stCell st) ∧ R w' seen st ∧ Below w.heap.size w w' ∧ w.heap.size ≤ gs ∧ w.heap.size ≤ gb

end Go.Proofs.Ytmmmgafnmpaohaa
