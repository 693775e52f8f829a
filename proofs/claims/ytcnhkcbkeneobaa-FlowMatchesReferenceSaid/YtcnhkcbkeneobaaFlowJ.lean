/-
The iterator over the steps from a node: what it yields, for every loop body.
-/
import Derived.Test.YtcnhkcbkeneobaaFlowI
import Derived.RangeFuncNested
import Derived.RangeFuncBound
import Derived.RangeFuncCalls
import Derived.RangeFuncLeaves
import Derived.Shelf.Abstract
import Derived.Shelf.RegionOpen
import Derived.OwnWalkIn
import Derived.TacticsInMore
import Derived.LoopNIn
import Derived.LoopIn
import Derived.BigRegionIn
namespace Go.Proofs.Ytcnhkcbkeneobaa
open Go.RowKit Go.Shelf

structure GStep where
  edge : Int
  dst : Int
  room : Int
  fwd : Bool
deriving Inhabited

def encS (s : GStep) : List Value := [.int .i64 s.edge, .int .i64 s.dst, .int .i64 s.room, .bool s.fwd]
def aggS (s : GStep) : Value := .agg #[.int .i64 s.edge, .int .i64 s.dst, .int .i64 s.room, .bool s.fwd]

def mkStep (es : List GEdge) (fl : List Int) (node : Int) (i : Nat) : GStep :=
  if (eAt es i).frm = node then ⟨i, (eAt es i).to, (eAt es i).cap - fAt fl i, true⟩ else ⟨i, (eAt es i).frm, fAt fl i, false⟩
/-- The steps with room along the edges of a list. -/
def stepsOf (es : List GEdge) (fl : List Int) (node : Int) (l : List Int) : List GStep := (l.map (fun i => mkStep es fl node i.toNat)).filter (fun s => decide (0 < s.room))
def GoodStep (es : List GEdge) (fl : List Int) (node : Int) (N : Nat) (s : GStep) : Prop := ∃ i, i < N ∧ s = mkStep es fl node i ∧ 0 < s.room ∧ ((eAt es i).frm = node ∨ (eAt es i).to = node)

theorem stepsOf_snoc (es : List GEdge) (fl : List Int) (node : Int) (l : List Int) (i : Nat) : stepsOf es fl node (l ++ [(i : Int)]) = stepsOf es fl node l ++ (if 0 < (mkStep es fl node i).room then [mkStep es fl node i] else []) := by
  unfold stepsOf
  rw [List.map_append, List.filter_append]
  congr 1
  by_cases h : 0 < (mkStep es fl node i).room <;> simp [h]

/-- What the walks read of a network. -/
structure NetRd (w : World) (gN gF gA nn N c : Nat) (A : Option Addr) (es : List GEdge) (fl : List Int) : Prop where
  n0 : w.cell? ⟨gN, 0, none⟩ = some (.int .i64 nn)
  n1 : w.cell? ⟨gN, 1, none⟩ = some (.slice A N c)
  n2 : w.cell? ⟨gN, 2, none⟩ = some (.slice (some ⟨gF, 0, none⟩) N N)
  n3 : w.cell? ⟨gN, 3, none⟩ = some (.slice (some ⟨gA, 0, none⟩) nn nn)
  hfl : ∀ i, i < N → w.cell? ⟨gF, i, none⟩ = some (.int .i64 (fAt fl i))
  rows : ∀ u, u < nn → ∃ Au cu, w.cell? ⟨gA, u, none⟩ = some (.slice Au (inc es N u).length cu) ∧ Rd 1 encI w Au (inc es N u)
  edges : Rd 3 encE w A es
  len : es.length = N
  ok : okG nn es = true
  fits : ∀ i, i < N → 0 ≤ fAt fl i ∧ fAt fl i ≤ (eAt es i).cap

theorem ownsRow_rd {w : World} {base : Nat} {v : Value} {xs : List Int} (h : w.ownsRow base 3 1 v xs.length (xs.map (Value.int .i64))) : ∃ Au cu, v = .slice Au xs.length cu ∧ Rd 1 encI w Au xs := by
  obtain ⟨a, c, rfl⟩ := ownsRow_shape h
  refine ⟨a, c, rfl, fun hn => ?_⟩
  obtain ⟨g, cap, hv, _, hlt⟩ := h.form hn
  cases hv
  refine ⟨g, 0, rfl, hlt, fun k x hx j v hv => ?_⟩
  have hj : j = 0 := by
    have := (List.getElem?_eq_some_iff.1 hv).1
    simp [encI] at this; exact this
  subst hj
  have hv2 : v = .int .i64 x := by simpa [encI] using hv.symm
  subst hv2
  have := h.cells (g := g) rfl k (.int .i64 x) (by rw [List.getElem?_map, hx]; rfl)
  rw [addr_add] at this
  simpa using this

theorem NetRd.keep {w w' : World} {gN gF gA nn N c : Nat} {A : Option Addr} {es : List GEdge} {fl : List Int} (h : NetRd w gN gF gA nn N c A es fl) (hb : Below w.heap.size w w') : NetRd w' gN gF gA nn N c A es fl := by
  have cl : ∀ {p : Addr} {v : Value}, w.cell? p = some v → w'.cell? p = some v := fun {p v} hp => (hb.cell (World.block_lt_of_cell? w p hp)).trans hp
  exact ⟨cl h.n0, cl h.n1, cl h.n2, cl h.n3, fun i hi => cl (h.hfl i hi), fun u hu => by
    obtain ⟨Au, cu, h1, h2⟩ := h.rows u hu
    exact ⟨Au, cu, cl h1, h2.keep hb⟩, h.edges.keep hb, h.len, h.ok, h.fits⟩

set_option maxHeartbeats 400000 in
theorem fSteps_any (gN : Nat) (node : Int) (w : World) :
    Calls Try.prog 31 #[.pointer (some ⟨gN, 0, none⟩), .int .i64 node] w fun e w' => e = .returned (.func (.func 33) #[] #[.pointer (some ⟨w.heap.size, 0, none⟩), .pointer (some ⟨w.heap.size + 1, 0, none⟩)]) ∧ w' = (w.alloc (.cells #[.pointer (some ⟨gN, 0, none⟩)] 44)).alloc (.cells #[.int .i64 node] 3) := by
  go_enter Try.func31, Try.ntmps31
  go_wp2
  go_ret
  exact ⟨rfl, rfl⟩
end Go.Proofs.Ytcnhkcbkeneobaa
