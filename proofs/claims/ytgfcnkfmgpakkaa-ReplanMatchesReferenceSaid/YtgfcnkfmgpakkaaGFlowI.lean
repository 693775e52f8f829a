/-
Several texts in one: FlowI, FlowJ.
-/
import Derived.Test.YtgfcnkfmgpakkaaCFlowH
import Derived.RangeFuncNested
import Derived.RangeFuncBound
import Derived.RangeFuncCalls
import Derived.RangeFuncLeaves
import Derived.Shelf.Abstract
import Derived.Shelf.RegionOpen
import Derived.OwnWalkIn
import Derived.TacticsInMore
import Derived.LoopNIn
import Derived.LoopIn
import Derived.BigRegionIn
/-
Contracts of the queue's push and pop.
-/
namespace Go.Proofs.Ytgfcnkfmgpakkaa
open Go.RowKit

def queueCell (v : Value) (h : Int) (i : Nat) : Value := if i = 0 then v else .int .i64 h

/-- A queue in block g: its items are the call's own, and h of them have been taken. -/
structure Queue (w : World) (g base : Nat) (v : Value) (xs : List Int) (h : Nat) : Prop where
  hd : Own w g 115 2 (queueCell v h)
  own : w.ownsRow base 3 1 v xs.length (xs.map (Value.int .i64))
  le : h ≤ xs.length

def PushPost (w : World) (g base : Nat) (v : Value) (xs : List Int) (h : Nat) (x : Int) (e : Ending) (w' : World) : Prop :=
  e = .returned (.tuple #[]) ∧ ∃ v', Queue w' g base v' (xs ++ [x]) h ∧ Mod (fun b => b = g ∨ v.ownBlock = some b) w w' ∧ (v'.ownBlock = v.ownBlock ∨ ∃ b, v'.ownBlock = some b ∧ w.heap.size ≤ b)

theorem addr_add (g j : Nat) : (⟨g, 0, none⟩ : Addr).add j = ⟨g, j, none⟩ := by
  unfold Addr.add
  by_cases h : j = 0 <;> simp [h]
theorem grow0_own {w w1 : World} {o : Obj} {row : Option Nat} (hg : (w.alloc o).grownBy w1 row) {g : Nat} {t : TypeId} {n : Nat} {f : Nat → Value} (h : Own w g t n f) (hr : row ≠ some g) : Own w1 g t n f := by
  have h1 : Own (w.alloc o) g t n f := h.alloc o
  have hl := h1.lt
  obtain ⟨cs, hb, hs, hc⟩ := h1
  exact ⟨cs, (hg.block g hl (fun e => hr e.symm)).trans hb, hs, hc⟩

set_option maxHeartbeats 800000 in
theorem fPush_any (g base : Nat) (v : Value) (xs : List Int) (h : Nat) (x : Int) (w : World) (hq : Queue w g base v xs h) (hb : base ≤ w.heap.size) (hl : xs.length ≤ 1000000) :
    Calls Try.prog 97 #[.pointer (some ⟨g, 0, none⟩), .int .i64 x] w (PushPost w g base v xs h x) := by
  obtain ⟨i0, hi0, hz0, hz1, hz2⟩ := info_parts infoInt
  obtain ⟨hd, hv, hle⟩ := hq
  have Hne := Lib.hid (ownsRow_ne hv hd (by decide))
  obtain ⟨A0, C0, hV⟩ := ownsRow_shape hv
  generalize hn : xs.length = n at *
  have c0 : w.cell? ⟨g, 0, none⟩ = some v := hd.cell (by omega)
  subst hV
  obtain ⟨gg, cap, w1, hrun, hown1, hgrow, hat, hgl⟩ := run_append_lies (P := Try.prog) (w.alloc (.cells #[.int .i64 x] 3)) 23 23 base 3 i0 _ 1 8 Try.underlying23 hi0 hz0 hz1 hz2 rfl (by omega) (.slice A0 n C0) n (xs.map (Value.int .i64)) (hv.alloc _) ⟨w.heap.size, 0, none⟩ 1 1 [.int .i64 x] rfl (World.news_of_block (cs := #[.int .i64 x]) (t := 3) (fr := (0, 0)) (heap_alloc_new w _)) (by simp [Value.oneCell']) (by omega) (by unfold maxLen; omega) (by omega) (by simp; omega) (w.heap.size + 1) (by simp)
  obtain ⟨ap1, ap2, ap3⟩ := appends_of hrun
  have lg := hd.lt
  have hd1 := grow0_own hgrow hd Hne.out
  have c1 := hd1.cell (i := 0) (by omega)
  have c2 := hd1.frozen 0
  have Hn := Lib.hid hn
  have PK := Lib.hid (And.intro hown1 (And.intro hgrow hat))
  clear hrun hown1 hgrow hat hn hv
  go_enter Try.func97, Try.ntmps97
  go_wp2
  go_end0
  obtain ⟨hown1, hgrow, hat⟩ := PK.out
  have hgn : g ≠ gg := by
    rintro rfl
    rcases hat with e | e
    · exact Hne.out e
    · omega
  refine ⟨rfl, .slice (some ⟨gg, 0, none⟩) (n + 1) cap, ⟨(hd1.set 0 _).congr (fun i hi => ?_), ?_, by rw [List.length_append, Hn.out]; omega⟩, ?_, ?_⟩
  · unfold queueCell
    by_cases h0 : i = 0 <;> simp [h0]
  · rw [List.length_append, Hn.out, List.map_append]
    exact (hown1.kept (row := some g) ⟨rfl, rfl, rfl, by simp [World.setCell], fun k _ hk => Below.heap_setCell _ _ _ _ (by rintro rfl; exact hk rfl)⟩ (.inr (by simp [Value.ownBlock]; omega)))
  · exact (((Mod.refl _ w).alloc _).grown hgrow (fun k hk => .inl (.inr hk))).setCell (.inl (.inl rfl)) _
  · rcases hat with e | e
    · exact .inl e.symm
    · exact .inr ⟨gg, rfl, by omega⟩

def PopPost (w : World) (g base : Nat) (v : Value) (xs : List Int) (h : Nat) (e : Ending) (w' : World) : Prop :=
  e = .returned (.tuple #[.int .i64 (xs[h]?.getD 0), .bool true]) ∧ Queue w' g base v xs (h + 1) ∧ Mod (fun b => b = g) w w'

set_option maxHeartbeats 800000 in
theorem fPop_some (g base : Nat) (v : Value) (xs : List Int) (h : Nat) (w : World) (hq : Queue w g base v xs h) (hl : xs.length ≤ 1000000) (hh : h < xs.length) :
    Calls Try.prog 98 #[.pointer (some ⟨g, 0, none⟩)] w (PopPost w g base v xs h) := by
  obtain ⟨hd, hv, hle⟩ := hq
  have Hne := Lib.hid (ownsRow_ne hv hd (by decide))
  have Hv := Lib.hid hv
  obtain ⟨g', cap, rfl, _, hlt⟩ := hv.form (by omega)
  have c0 : w.cell? ⟨g, 0, none⟩ = some (.slice (some ⟨g', 0, none⟩) xs.length cap) := hd.cell (by omega)
  have c1 : w.cell? ⟨g, 1, none⟩ = some (.int .i64 h) := hd.cell (by omega)
  have f1 := hd.frozen 1
  have x0 : w.cell? ⟨g', h, none⟩ = some (.int .i64 (xs[h]?.getD 0)) := by
    have := hv.cells (g := g') rfl h (.int .i64 (xs[h]?.getD 0)) (by rw [List.getElem?_map, List.getElem?_eq_getElem hh]; rfl)
    rwa [addr_add] at this
  generalize hX : xs[h]?.getD 0 = x at *
  have HX := Lib.hid hX; clear hX
  generalize hn : xs.length = n at *
  have Hn := Lib.hid hn
  clear hn hv
  have hne : ((h : Int) == (n : Int)) = false := by simp; omega
  have hh' : (h : Int) < (n : Int) := by omega
  go_enter Try.func98, Try.ntmps98
  go_wp2
  go_quiet (fail)
  go_wp2
  go_quiet (fail)
  go_wp2
  go_ret2
  refine ⟨by rw [HX.out]; rfl, ⟨((hd.set 1 (.int .i64 ((h : Int) + 1))).congr (fun i hi => ?_)).drewN _, ?_, by rw [Hn.out]; omega⟩, ?_⟩
  · unfold queueCell
    by_cases h0 : i = 0
    · simp [h0]
    · obtain rfl : i = 1 := by omega
      simp
  · rw [Hn.out]; exact (Hv.out.kept (row := some g) ⟨rfl, rfl, rfl, by simp [World.setCell], fun k _ hk => Below.heap_setCell _ _ _ _ (by rintro rfl; exact hk rfl)⟩ (.inr Hne.out))
  · exact ((Mod.refl (fun b => b = g) w).drewN _).setCell (p := ⟨g, 1, none⟩) (.inl rfl) _

set_option maxHeartbeats 800000 in
theorem fPop_none (g base : Nat) (v : Value) (xs : List Int) (w : World) (hq : Queue w g base v xs xs.length) :
    Calls Try.prog 98 #[.pointer (some ⟨g, 0, none⟩)] w (fun e w' => e = .returned (.tuple #[.int .i64 0, .bool false]) ∧ Below w.heap.size w w') := by
  obtain ⟨hd, hv, hle⟩ := hq
  obtain ⟨A0, C0, rfl⟩ := ownsRow_shape hv
  have c0 : w.cell? ⟨g, 0, none⟩ = some (.slice A0 xs.length C0) := hd.cell (by omega)
  have c1 : w.cell? ⟨g, 1, none⟩ = some (.int .i64 (xs.length : Int)) := hd.cell (by omega)
  generalize xs.length = n at *
  have hne : ((n : Int) == (n : Int)) = true := by simp
  go_enter Try.func98, Try.ntmps98
  go_wp2
  go_quiet (fail)
  go_wp2
  go_ret2
  exact ⟨rfl, below_drewN (Below.refl _ _) _⟩
end Go.Proofs.Ytgfcnkfmgpakkaa
/-
The iterator over the steps from a node: what it yields, for every loop body.
-/
namespace Go.Proofs.Ytgfcnkfmgpakkaa
open Go.RowKit Go.Shelf

structure GStep where
  edge : Int
  dst : Int
  room : Int
  fwd : Bool
deriving Inhabited

def encS (s : GStep) : List Value := [.int .i64 s.edge, .int .i64 s.dst, .int .i64 s.room, .bool s.fwd]
def aggS (s : GStep) : Value := .agg #[.int .i64 s.edge, .int .i64 s.dst, .int .i64 s.room, .bool s.fwd]

def mkStep (es : List GEdge) (fl : List Int) (node : Int) (i : Nat) : GStep :=
  if (eAt es i).frm = node then ⟨i, (eAt es i).to, (eAt es i).cap - fAt fl i, true⟩ else ⟨i, (eAt es i).frm, fAt fl i, false⟩
/-- The steps with room along the edges of a list. -/
def stepsOf (es : List GEdge) (fl : List Int) (node : Int) (l : List Int) : List GStep := (l.map (fun i => mkStep es fl node i.toNat)).filter (fun s => decide (0 < s.room))
def GoodStep (es : List GEdge) (fl : List Int) (node : Int) (N : Nat) (s : GStep) : Prop := ∃ i, i < N ∧ s = mkStep es fl node i ∧ 0 < s.room ∧ ((eAt es i).frm = node ∨ (eAt es i).to = node)

theorem stepsOf_snoc (es : List GEdge) (fl : List Int) (node : Int) (l : List Int) (i : Nat) : stepsOf es fl node (l ++ [(i : Int)]) = stepsOf es fl node l ++ (if 0 < (mkStep es fl node i).room then [mkStep es fl node i] else []) := by
  unfold stepsOf
  rw [List.map_append, List.filter_append]
  congr 1
  by_cases h : 0 < (mkStep es fl node i).room <;> simp [h]

/-- What the walks read of a network. -/
structure NetRd (w : World) (gN gF gA nn N c : Nat) (A : Option Addr) (es : List GEdge) (fl : List Int) : Prop where
  n0 : w.cell? ⟨gN, 0, none⟩ = some (.int .i64 nn)
  n1 : w.cell? ⟨gN, 1, none⟩ = some (.slice A N c)
  n2 : w.cell? ⟨gN, 2, none⟩ = some (.slice (some ⟨gF, 0, none⟩) N N)
  n3 : w.cell? ⟨gN, 3, none⟩ = some (.slice (some ⟨gA, 0, none⟩) nn nn)
  hfl : ∀ i, i < N → w.cell? ⟨gF, i, none⟩ = some (.int .i64 (fAt fl i))
  rows : ∀ u, u < nn → ∃ Au cu, w.cell? ⟨gA, u, none⟩ = some (.slice Au (inc es N u).length cu) ∧ Rd 1 encI w Au (inc es N u)
  edges : Rd 3 encE w A es
  len : es.length = N
  ok : okG nn es = true
  fits : ∀ i, i < N → 0 ≤ fAt fl i ∧ fAt fl i ≤ (eAt es i).cap

theorem ownsRow_rd {w : World} {base : Nat} {v : Value} {xs : List Int} (h : w.ownsRow base 3 1 v xs.length (xs.map (Value.int .i64))) : ∃ Au cu, v = .slice Au xs.length cu ∧ Rd 1 encI w Au xs := by
  obtain ⟨a, c, rfl⟩ := ownsRow_shape h
  refine ⟨a, c, rfl, fun hn => ?_⟩
  obtain ⟨g, cap, hv, _, hlt⟩ := h.form hn
  cases hv
  refine ⟨g, 0, rfl, hlt, fun k x hx j v hv => ?_⟩
  have hj : j = 0 := by
    have := (List.getElem?_eq_some_iff.1 hv).1
    simp [encI] at this; exact this
  subst hj
  have hv2 : v = .int .i64 x := by simpa [encI] using hv.symm
  subst hv2
  have := h.cells (g := g) rfl k (.int .i64 x) (by rw [List.getElem?_map, hx]; rfl)
  rw [addr_add] at this
  simpa using this

theorem NetRd.keep {w w' : World} {gN gF gA nn N c : Nat} {A : Option Addr} {es : List GEdge} {fl : List Int} (h : NetRd w gN gF gA nn N c A es fl) (hb : Below w.heap.size w w') : NetRd w' gN gF gA nn N c A es fl := by
  have cl : ∀ {p : Addr} {v : Value}, w.cell? p = some v → w'.cell? p = some v := fun {p v} hp => (hb.cell (World.block_lt_of_cell? w p hp)).trans hp
  exact ⟨cl h.n0, cl h.n1, cl h.n2, cl h.n3, fun i hi => cl (h.hfl i hi), fun u hu => by
    obtain ⟨Au, cu, h1, h2⟩ := h.rows u hu
    exact ⟨Au, cu, cl h1, h2.keep hb⟩, h.edges.keep hb, h.len, h.ok, h.fits⟩

set_option maxHeartbeats 400000 in
theorem fSteps_any (gN : Nat) (node : Int) (w : World) :
    Calls Try.prog 99 #[.pointer (some ⟨gN, 0, none⟩), .int .i64 node] w fun e w' => e = .returned (.func (.func 120) #[] #[.pointer (some ⟨w.heap.size, 0, none⟩), .pointer (some ⟨w.heap.size + 1, 0, none⟩)]) ∧ w' = (w.alloc (.cells #[.pointer (some ⟨gN, 0, none⟩)] 99)).alloc (.cells #[.int .i64 node] 3) := by
  go_enter Try.func99, Try.ntmps99
  go_wp2
  go_ret
  exact ⟨rfl, rfl⟩
end Go.Proofs.Ytgfcnkfmgpakkaa
