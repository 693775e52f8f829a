/-
Small things for the walks of law 10.
-/
import Derived.Test.YtbjmpfchapggfaaGreatCPrHdW
import Derived.Test.YtbjmpfchapggfaaGreatGLPrP
import Derived.Test.YtbjmpfchapggfaaGreatGLPrC
import Derived.Test.YtbjmpfchapggfaaGreatGLLimG
import Derived.Test.YtbjmpfchapggfaaGreatGLPrV
import Derived.Test.YtbjmpfchapggfaaGreatGLPrA
namespace Go.Proofs.YtbjmpfchapggfaaGreat
open Go.RowKit
set_option linter.unusedVariables false
set_option linter.unusedSimpArgs false
theorem hb_obj {w w' : World} {b : Nat} {o : Obj} (h : Below w.heap.size w w') (ho : w.heap[b]? = some o) : w'.heap[b]? = some o := by
  have hb : b < w.heap.size := (Array.getElem?_eq_some_iff.1 ho).1
  rw [h.block b hb, ho]
theorem alloc_obj (w : World) (o : Obj) : (w.alloc o).heap[w.heap.size]? = some o := Array.getElem?_push_size
theorem box_own {w : World} {b : Nat} {t : TypeId} {cs : Array Value} (h : w.heap[b]? = some (Obj.cells cs t)) (d : Value) : Own w b t cs.size (fun i => cs[i]?.getD d) := ⟨cs, h, rfl, fun i hi => by simp [Array.getElem?_eq_getElem hi]⟩
theorem box3 {w : World} {b : Nat} {t : TypeId} {x y z : Value} (h : w.heap[b]? = some (Obj.cells #[x, y, z] t)) : w.cell? ⟨b, 0, none⟩ = some x ∧ w.cell? ⟨b, 1, none⟩ = some y ∧ w.cell? ⟨b, 2, none⟩ = some z ∧ w.frozen? ⟨b, 0, none⟩ = false ∧ w.frozen? ⟨b, 1, none⟩ = false ∧ w.frozen? ⟨b, 2, none⟩ = false := by
  have ho := box_own h undef
  exact ⟨ho.cell (i := 0) (by show 0 < 3; omega), ho.cell (i := 1) (by show 1 < 3; omega), ho.cell (i := 2) (by show 2 < 3; omega), ho.frozen 0, ho.frozen 1, ho.frozen 2⟩
theorem fI_off {xs : List Int} {i : Nat} (h : xs.length ≤ i) : fI xs i = 0 := by unfold fI; rw [List.getElem?_eq_none h]; rfl
theorem fI_rowN {f : Nat → Int} {n i : Nat} (h : i < n) : fI (rowN f n) i = f i := by unfold fI rowN; rw [List.getElem?_map, List.getElem?_range h]; rfl
theorem cur_all {s : GSite} {xs : List Int} (h : xs.length = s.chgs.length ∧ ∀ i, i < xs.length → 0 ≤ fI xs i ∧ fI xs i ≤ 80) (i : Nat) : 0 ≤ fI xs i ∧ fI xs i ≤ 80 := by
  rcases Nat.lt_or_ge i xs.length with h1 | h1
  · exact h.2 i h1
  · rw [fI_off h1]; omega
/-- Currents below the tops are currents. -/
theorem bel_cur {s : GSite} {xs bs : List Int} {n : Nat} (hn : xs.length = n) (h : xs.length = s.chgs.length ∧ ∀ i, i < xs.length → 0 ≤ fI xs i ∧ fI xs i ≤ 80) : curB s (rowN (belF xs bs) n) = true := by
  refine curB_iff.2 ⟨by rw [rowN_len, ← hn]; exact h.1, fun i hi => ?_⟩
  rw [rowN_len] at hi
  rw [fI_rowN hi]
  have h1 := belF_bd (bs := bs) (fun i => (cur_all h i).1) i
  have h2 := cur_all h i
  omega
theorem bel_le {s : GSite} {xs bs : List Int} {n : Nat} (hn : xs.length = n) (h : xs.length = s.chgs.length ∧ ∀ i, i < xs.length → 0 ≤ fI xs i ∧ fI xs i ≤ 80) (i : Nat) (hi : i < s.chgs.length) : fI (rowN (belF xs bs) n) i ≤ fI xs i := by
  rw [fI_rowN (by omega)]
  exact (belF_bd (bs := bs) (fun i => (cur_all h i).1) i).2
end Go.Proofs.YtbjmpfchapggfaaGreat
