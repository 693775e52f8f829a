/-
Words for a function in whose loop a range over a function stands: the marks that such ranges leave among the deferred calls, and what a change of a block that holds no cells leaves alone.
-/
import Derived.Test.YtcnhkcbkeneobaaBase2
import Derived.RangeFuncNested
import Derived.RangeFuncLeaves
namespace Go.Proofs.Ytcnhkcbkeneobaa
open Go.RowKit

/-- A change of blocks that hold no cells, and new blocks. -/
def Nc (B : Nat) (W W' : World) : Prop := ∃ row, W.grownBy W' row ∧ ∀ r, row = some r → B ≤ r ∧ ∃ o : Obj, W.heap[r]? = some o ∧ o.isCells = false

theorem Own.nc {B : Nat} {W W' : World} {g : Nat} {t : TypeId} {n : Nat} {f : Nat → Value} (h : Own W g t n f) (hn : Nc B W W') : Own W' g t n f := by
  obtain ⟨row, hg, hr⟩ := hn
  have hl := h.lt
  obtain ⟨cs, hb, hs, hc⟩ := h
  refine ⟨cs, (hg.block g hl (fun e => ?_)).trans hb, hs, hc⟩
  obtain ⟨_, o, ho, hoc⟩ := hr g e.symm
  rw [hb] at ho
  cases ho
  cases hoc
theorem ownsRow_nc {B : Nat} {W W' : World} {base : Nat} {e : TypeId} {size : Nat} {v : Value} {n : Nat} {xs : List Value} (h : W.ownsRow base e size v n xs) (hn : Nc B W W') : W'.ownsRow base e size v n xs := by
  obtain ⟨row, hg, hr⟩ := hn
  refine h.kept hg ?_
  rcases h.2 with ⟨rfl, _⟩ | ⟨g, cap, cur, rfl, _, hh, _⟩
  · exact .inl rfl
  · right
    intro e2
    obtain ⟨_, o, ho, hoc⟩ := hr g (by rw [← e2]; rfl)
    rw [hh] at ho
    cases ho
    cases hoc
theorem below_nc {B B' : Nat} {w W W' : World} (h : Below B' w W) (hw : B' ≤ w.heap.size) (hn : Nc B W W') (hB : B' ≤ B) : Below B' w W' := by
  obtain ⟨row, hg, hr⟩ := hn
  have hs := h.size
  exact h.trans ⟨hg.os, hg.tape, hg.output, hg.size, fun k hk => hg.block k (by omega) (fun e => by have := (hr k e.symm).1; omega)⟩
theorem Nc.putObj (W : World) (D : Nat) (o' : Obj) {o : Obj} {B : Nat} (hB : B ≤ D) (h : W.heap[D]? = some o) (hc : o.isCells = false) : Nc B W (W.putObj D o') :=
  ⟨some D, grownBy_putObj' W D o', fun r e => by cases e; exact ⟨hB, o, h, hc⟩⟩

/-- The marks of ranges over functions: blocks from B on, all there. -/
def Marks (B : Nat) (W : World) (ds : List Deferred) : Prop :=
  ∃ Ds : List Nat, ds = Ds.map (fun D => ({ target := .collected D, args := #[] } : Deferred)) ∧ Ds.Nodup ∧ ∀ D, D ∈ Ds → B ≤ D ∧ D < W.heap.size ∧ W.heap[D]? = some (.deferred (some []))
theorem Marks.nil (B : Nat) (W : World) : Marks B W [] := ⟨[], rfl, List.nodup_nil, fun _ h => by cases h⟩
theorem Marks.keeps {B : Nat} {W W' : World} {ds : List Deferred} (h : Marks B W ds) (hk : KeepsFrom B W W') : Marks B W' ds := by
  obtain ⟨Ds, e, hn, hD⟩ := h
  exact ⟨Ds, e, hn, fun D hm => ⟨(hD D hm).1, Nat.lt_of_lt_of_le (hD D hm).2.1 hk.size, hk.same D _ (hD D hm).1 (hD D hm).2.2 rfl⟩⟩
theorem Marks.cons {B : Nat} {W W' : World} {ds : List Deferred} {D : Nat} (h : Marks B W ds) (hk : ∀ k, k < W.heap.size → W.heap[k]? = some (.deferred (some [])) → W'.heap[k]? = some (.deferred (some []))) (hs : W.heap.size ≤ W'.heap.size) (hD : W.heap.size ≤ D) (hB : B ≤ D) (hd : W'.heap[D]? = some (.deferred (some []))) :
    Marks B W' ({ target := .collected D, args := #[] } :: ds) := by
  obtain ⟨Ds, e, hn, hm⟩ := h
  have hlt : D < W'.heap.size := by
    rcases Nat.lt_or_ge D W'.heap.size with x | x
    · exact x
    · rw [Array.getElem?_eq_none x] at hd; cases hd
  refine ⟨D :: Ds, by rw [e]; rfl, List.nodup_cons.2 ⟨fun x => by have := (hm D x).2.1; omega, hn⟩, fun D' hm' => ?_⟩
  rcases List.mem_cons.1 hm' with rfl | hm'
  · exact ⟨hB, hlt, hd⟩
  · obtain ⟨a, b, c⟩ := hm D' hm'
    exact ⟨a, Nat.lt_of_lt_of_le b hs, hk D' b c⟩

/-- What the taking of marks leaves alone. -/
def Taken (B : Nat) (W W' : World) : Prop := W'.os = W.os ∧ W'.tape = W.tape ∧ W'.output = W.output ∧ W'.heap.size = W.heap.size ∧ (∀ k, k < B → W'.heap[k]? = W.heap[k]?) ∧ ∀ (k : Nat) (o : Obj), W.heap[k]? = some o → o.isCells = true → W'.heap[k]? = some o
theorem Taken.refl (B : Nat) (W : World) : Taken B W W := ⟨rfl, rfl, rfl, rfl, fun _ _ => rfl, fun _ _ h _ => h⟩
theorem Taken.own {B : Nat} {W W' : World} {g : Nat} {t : TypeId} {n : Nat} {f : Nat → Value} (hT : Taken B W W') (h : Own W g t n f) : Own W' g t n f := by
  obtain ⟨cs, hb, hs, hc⟩ := h
  exact ⟨cs, hT.2.2.2.2.2 g _ hb rfl, hs, hc⟩
theorem Taken.below {B : Nat} {w W W' : World} (hT : Taken B W W') (h : Below B w W) : Below B w W' :=
  h.trans ⟨hT.1, hT.2.1, hT.2.2.1, Nat.le_of_eq hT.2.2.2.1.symm, hT.2.2.2.2.1⟩

/-- At the return of such a function the marks are taken; then its results are read. -/
theorem leaves_marks {n : Nat} {P : Program} {fn : Func} {tmps : Array Value} {R : Ending → World → Prop} {B : Nat} : ∀ (ds : List Deferred) (W : World), Marks B W ds →
    (∀ W', Taken B W W' → ∃ v, (results fn tmps).run P W' = .ok v W' ∧ R (.returned v) W') → LeavesInM Fence.wide n P fn tmps R ds .returning W
  | [], W, _, h => h W (Taken.refl B W)
  | d :: ds, W, ⟨Ds, e, hn, hm⟩, h => by
    match Ds, e, hn, hm with
    | D :: Ds, e, hn, hm =>
      have e1 : d = { target := .collected D, args := #[] } := by injection e
      have e2 : ds = Ds.map (fun D => ({ target := .collected D, args := #[] } : Deferred)) := by injection e
      obtain ⟨hB, hlt, hd⟩ := hm D (List.mem_cons_self ..)
      have hn' := List.nodup_cons.1 hn
      refine ⟨by simp, .inl ⟨D, _, by rw [e1], run_takeDeferred hd, ?_⟩⟩
      have hoth : ∀ k, k ≠ D → (W.putObj D (.deferred none)).heap[k]? = W.heap[k]? := fun k hk => World.putObj_heap_other hk
      refine leaves_marks (B := B) ds _ ⟨Ds, e2, hn'.2, fun D' hD' => ?_⟩ (fun W' hT => h W' ?_)
      · obtain ⟨a, b, c⟩ := hm D' (List.mem_cons_of_mem _ hD')
        exact ⟨a, by simpa using b, by rw [hoth D' (fun x => hn'.1 (x ▸ hD'))]; exact c⟩
      · refine ⟨hT.1, hT.2.1, hT.2.2.1, by rw [hT.2.2.2.1]; simp, fun k hk => (hT.2.2.2.2.1 k hk).trans (hoth k (by omega)), fun k o hk ho => hT.2.2.2.2.2 k o ?_ ho⟩
        rw [hoth k (by rintro rfl; rw [hd] at hk; cases hk; cases ho)]
        exact hk
end Go.Proofs.Ytcnhkcbkeneobaa
