/-
A loop over the slots of a job whose body never leaves it.
-/
import Derived.Test.YtgfcnkfmgpakkaaCPlanB
import Derived.Test.YtgfcnkfmgpakkaaGBase
import Derived.Test.YtgfcnkfmgpakkaaCFlowS
namespace Go.Proofs.Ytgfcnkfmgpakkaa
open Go.RowKit Go.Shelf
set_option linter.unusedVariables false
theorem cell_nc {B : Nat} {W W' : World} {p : Addr} {v : Value} (h : W.cell? p = some v) (hn : Nc B W W') : W'.cell? p = some v := by
  obtain ⟨row, hg, hr⟩ := hn
  have hl := World.block_lt_of_cell? W _ h
  rw [← h]
  refine World.cell?_of_block (hg.block p.block hl (fun e => ?_))
  obtain ⟨_, o, ho, hc⟩ := hr p.block e.symm
  unfold World.cell? at h
  rw [ho] at h
  cases o <;> first | (simp [Obj.isCells] at hc; done) | (simp at h; done)
theorem range_slots {j : GJob} (q0 : 0 ≤ j.frm) (q1 : j.frm ≤ j.till) (q2 : j.till ≤ 24) {g : Operand} {p : Tmp} {assign body : Code} {Q : Exit → Act → World → Prop} {a : Act} {w : World} (b1 B : Nat)
    (hg : a.eval g = .func (.func 82) #[] #[.pointer (some ⟨b1, 0, none⟩)]) (hb0 : w.cell? ⟨b1, 0, none⟩ = some (.int .i64 j.frm)) (hb1 : w.cell? ⟨b1, 1, none⟩ = some (.int .i64 j.till)) (hB : B ≤ w.heap.size)
    (I : List (SlotAt j) → World → Prop) (hI : ∀ pre W W', I pre W → Nc w.heap.size W W' → I pre W') (h0 : I [] w) (Ax : SlotAt j → Act → Prop)
    (hassign : ∀ (l : Nat) (x : SlotAt j) (W : World) (K : Act → World → Prop), (∀ a', Ax x a' → K a' W) → assign.wpIn (Fence.wide.inRound l) 3 Try.prog (Exit.then K (fun _ _ _ => False)) { tmps := a.tmps.setIfInBounds p (.int .i64 (x.1 : Nat)), defers := [] } W)
    (hbody : ∀ (l : Nat) (pre : List (SlotAt j)) (x : SlotAt j) (a' : Act) (W : World), I pre W → Ax x a' → pre.length < lenJ j → body.wpIn (Fence.wide.inRound l) 3 Try.prog (fun e _ W' => e = .normal ∧ KeepsFrom w.heap.size W W' ∧ KpJ B b1 W W' ∧ I (pre ++ [x]) W') a' W)
    (hdone : ∀ (D : Nat) (ys : List (SlotAt j)) (W : World), w.heap.size ≤ D → ys.map (·.1) = slotsTo j (lenJ j) → I ys W → W.heap[D]? = some (.deferred (some [])) → Q .normal { a with defers := { target := .collected D, args := #[] } :: a.defers } W) :
    (Code.rangeFunc g #[p] assign body).wp Try.prog Q a w := by
  have lb := World.block_lt_of_cell? w _ hb0
  dsimp only at lb
  refine (wpIn_wide (n := 5)).1 ?_
  refine wpIn_rangeFunc_ownH (F := Fence.wide) (α := SlotAt j) rfl (by omega) (gf := 82) (lb := #[.pointer (some ⟨b1, 0, none⟩)]) hg trivial (enters_of Try.func82 (by kernel_rfl) rfl)
    (encs := fun x => #[.int .i64 (x.1 : Nat)]) (Kp := KpJ B b1) (S := fun (ys : List (SlotAt j)) => ys.map (·.1) = slotsTo j (lenJ j)) (Sp := fun (ys : List (SlotAt j)) => List.IsPrefix (ys.map (fun (x : SlotAt j) => x.1)) (slotsTo j (lenJ j))) (N := lenJ j) (w0 := w)
    (fun l J Jx W' hW' hJ _ hY h0 => plSlots1_in 4 (by omega) l b1 B j q0 q1 q2 J Jx W' hJ hY ((hW'.cell (p := ⟨b1, 0, none⟩) lb).trans hb0) ((hW'.cell (p := ⟨b1, 1, none⟩) lb).trans hb1) h0)
    ?hKt ?hKb (Below.refl _ _) (fun _ => rfl) I (fun _ _ _ => False) ?hI (fun _ _ _ _ _ h _ _ => h) h0 (fun x a' _ => Ax x a') (fun _ _ _ _ _ _ h _ _ => h) ?assign ?body ?done (fun _ _ _ _ _ _ h _ => h.elim)
  case hKt => exact fun h1 h2 => ⟨h1.bel.trans h2.bel, h2.s1.trans h1.s1⟩
  case hKb =>
    intro W' l o o' hl ho _ _
    exact ⟨⟨rfl, rfl, rfl, by simp, fun k hk => World.putObj_heap_other (by omega)⟩, World.putObj_heap_other (by omega)⟩
  case hI => exact fun pre W1 W2 row h hg hr => hI pre W1 W2 h ⟨row, hg, hr⟩
  case assign =>
    intro l pre x W1 K hi hK
    have ht : (#[p].zip #[Value.int .i64 (x.1 : Nat)]).foldl (fun t (p, v) => t.setIfInBounds p v) a.tmps = a.tmps.setIfInBounds p (.int .i64 (x.1 : Nat)) := by simp
    rw [ht]
    exact hassign l x W1 K (fun a' hx => hK a' W1 (KeepsFrom.refl _ _) ⟨Below.refl _ _, rfl⟩ hi hx)
  case body =>
    intro l pre x a' W1 hl hlr hi hx hlen
    refine wpIn_mono (hbody l pre x a' W1 hi hx hlen) ?_
    rintro e a2 W2 ⟨rfl, k1, k2, k3⟩
    exact ⟨k1, k2, k3⟩
  case done => exact fun D ys W1 hD hS hi hdf => hdone D ys W1 hD hS hi hdf
end Go.Proofs.Ytgfcnkfmgpakkaa
