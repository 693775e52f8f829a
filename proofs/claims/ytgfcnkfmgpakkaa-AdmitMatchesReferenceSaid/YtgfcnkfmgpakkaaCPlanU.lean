/-
The memory of plan.Schedule while its graph grows.
-/
import Derived.Test.YtgfcnkfmgpakkaaCPlanG
import Derived.Test.YtgfcnkfmgpakkaaGPlanS
import Derived.Test.YtgfcnkfmgpakkaaGAppE
import Derived.Test.YtgfcnkfmgpakkaaGBase
namespace Go.Proofs.Ytgfcnkfmgpakkaa
open Go.RowKit Go.Shelf
set_option linter.unusedVariables false
/-- A loop over the slots of a job whose body never leaves it; the body's frame is the frame of the loop. -/
theorem range_slots2 {j : GJob} (q0 : 0 ≤ j.frm) (q1 : j.frm ≤ j.till) (q2 : j.till ≤ 24) {g : Operand} {p : Tmp} (q : Tmp) {assign body : Code} {Q : Exit → Act → World → Prop} {a : Act} {w : World} (b1 B : Nat)
    (hg : a.eval g = .func (.func 82) #[] #[.pointer (some ⟨b1, 0, none⟩)]) (hb0 : w.cell? ⟨b1, 0, none⟩ = some (.int .i64 j.frm)) (hb1 : w.cell? ⟨b1, 1, none⟩ = some (.int .i64 j.till)) (hB : B ≤ w.heap.size)
    (I : List (SlotAt j) → World → Prop) (hI : ∀ pre W W', I pre W → Nc w.heap.size W W' → I pre W') (h0 : I [] w)
    (hassign : ∀ (l : Nat) (x : SlotAt j) (W : World) (K : Act → World → Prop), K ⟨(a.tmps.setIfInBounds p (.int .i64 (x.1 : Nat))).setIfInBounds q (.int .i64 (x.1 : Nat)), []⟩ W → assign.wpIn (Fence.wide.inRound l) 3 Try.prog (Exit.then K (fun _ _ _ => False)) ⟨a.tmps.setIfInBounds p (.int .i64 (x.1 : Nat)), []⟩ W)
    (hbody : ∀ (l : Nat) (pre : List (SlotAt j)) (x : SlotAt j) (W : World), I pre W → pre.length < lenJ j → body.wpIn (Fence.wide.inRound l) 3 Try.prog (fun e _ W' => e = .normal ∧ KeepsFrom w.heap.size W W' ∧ KpJ B b1 W W' ∧ I (pre ++ [x]) W') ⟨(a.tmps.setIfInBounds p (.int .i64 (x.1 : Nat))).setIfInBounds q (.int .i64 (x.1 : Nat)), []⟩ W)
    (hdone : ∀ (D : Nat) (ys : List (SlotAt j)) (W : World), w.heap.size ≤ D → ys.map (·.1) = slotsTo j (lenJ j) → I ys W → W.heap[D]? = some (.deferred (some [])) → Q .normal { a with defers := { target := .collected D, args := #[] } :: a.defers } W) :
    (Code.rangeFunc g #[p] assign body).wp Try.prog Q a w :=
  range_slots q0 q1 q2 b1 B hg hb0 hb1 hB I hI h0 (fun x a' => a' = ⟨(a.tmps.setIfInBounds p (.int .i64 (x.1 : Nat))).setIfInBounds q (.int .i64 (x.1 : Nat)), []⟩)
    (fun l x W K hK => hassign l x W K (hK _ rfl)) (fun l pre x a' W hi ha hl => by subst ha; exact hbody l pre x W hi hl) hdone
def loopOf (n : Nat) : Code → Option Code
  | .loop c => if (findRegion n c).isSome then some c else none
  | .seq a b => match loopOf n a with
    | some c => some c
    | none => loopOf n b
  | .block _ c => loopOf n c
  | .scope c => loopOf n c
  | .cond _ a b => match loopOf n a with
    | some c => some c
    | none => loopOf n b
  | _ => none
def gcell (nn : Nat) (v : Value) : Nat → Value := fun i => if i = 0 then .int .i64 nn else v
structure SCm (w W : World) (A : Option Addr) (c N bi nn : Nat) (v : Value) (es : List GEdge) : Prop where
  k0 : W.cell? ⟨w.heap.size, 0, none⟩ = some (.slice A N c)
  o5 : Own W (w.heap.size + 1) 30 2 (fun _ => .slice none 0 0)
  k9 : W.cell? ⟨bi, 0, none⟩ = some (.func (.func 51) #[] #[])
  k10 : W.cell? ⟨bi + 1, 0, none⟩ = some (.func (.func 52) #[] #[.pointer (some ⟨w.heap.size, 0, none⟩)])
  og : Own W (bi + 2) 68 2 (gcell nn v)
  oe : OwnE W (bi + 3) v es
  bel : Below w.heap.size w W
  bb : w.heap.size + 1 < bi
section
variable {w W W' : World} {A : Option Addr} {c N bi nn : Nat} {v : Value} {es : List GEdge}
theorem SCm.keep (h : SCm w W A c N bi nn v es) (hb : Below W.heap.size W W') : SCm w W' A c N bi nn v es :=
  have cl : ∀ {p : Addr} {v : Value}, W.cell? p = some v → W'.cell? p = some v := fun {p v} hp => (hb.cell (World.block_lt_of_cell? W p hp)).trans hp
  ⟨cl h.k0, h.o5.keep hb h.o5.lt, cl h.k9, cl h.k10, h.og.keep hb h.og.lt, h.oe.keep hb, below_then h.bel hb, h.bb⟩
theorem SCm.nc {m0 : Nat} (h : SCm w W A c N bi nn v es) (hn : Nc m0 W W') (hw : w.heap.size ≤ m0) : SCm w W' A c N bi nn v es :=
  ⟨cell_nc h.k0 hn, h.o5.nc hn, cell_nc h.k9 hn, cell_nc h.k10 hn, h.og.nc hn, ownsRow_nc h.oe hn, below_nc h.bel (Nat.le_refl _) hn hw, h.bb⟩
theorem SCm.own_ge (h : SCm w W A c N bi nn v es) {q : Nat} (hq : v.ownBlock = some q) : bi + 3 ≤ q ∧ q < W.heap.size := World.ownsRow.lt h.oe q hq
theorem SCm.size (h : SCm w W A c N bi nn v es) : bi + 2 < W.heap.size := h.og.lt
theorem SCm.cells (h : SCm w W A c N bi nn v es) {q : Nat} (hq : v.ownBlock = some q ∨ q = bi + 2) {o : Obj} (ho : W.heap[q]? = some o) : o.isCells = true := by
  rcases hq with hq | rfl
  · rcases h.oe.2 with ⟨rfl, _⟩ | ⟨g, cap, cur, rfl, _, hg, _⟩
    · cases hq
    · have e : g = q := Option.some.inj hq
      subst e
      rw [hg] at ho
      cases ho
      rfl
  · exact h.og.cells ho
theorem SCm.push (h : SCm w W A c N bi nn v es) (f t cp : Int) (hl : es.length ≤ 1000000) :
    Appends Try.prog (W.alloc (.cells #[.int .i64 f, .int .i64 t, .int .i64 cp] 70)).drew 66 66 v (.slice (some ⟨W.heap.size, 0, none⟩) 1 1) ∧
    ∃ a' l' c' w1, appV Try.prog (W.alloc (.cells #[.int .i64 f, .int .i64 t, .int .i64 cp] 70)).drew 66 66 v (.slice (some ⟨W.heap.size, 0, none⟩) 1 1) = .slice a' l' c' ∧
      appW Try.prog (W.alloc (.cells #[.int .i64 f, .int .i64 t, .int .i64 cp] 70)).drew 66 66 v (.slice (some ⟨W.heap.size, 0, none⟩) 1 1) = w1 ∧
      w1.cell? ⟨bi + 2, 1, none⟩ = some v ∧ w1.frozen? ⟨bi + 2, 1, none⟩ = false ∧
      Hid (∀ (p : Addr) (u : Value), W.cell? p = some u → v.ownBlock ≠ some p.block → w1.cell? p = some u) ∧
      Hid (SCm w (w1.setCell ⟨bi + 2, 1, none⟩ (.slice a' l' c')) A c N bi nn (.slice a' l' c') (es ++ [⟨f, t, cp⟩])) ∧ Hid (Mod (fun q => v.ownBlock = some q ∨ q = bi + 2) W (w1.setCell ⟨bi + 2, 1, none⟩ (.slice a' l' c'))) ∧
      Hid ((Value.slice a' l' c').ownBlock = v.ownBlock ∨ (Value.slice a' l' c').ownBlock = some (W.heap.size + 1)) := by
  have hsz := h.size
  have hoe : OwnE W.drew (bi + 3) v es := h.oe
  obtain ⟨ap, v', w1, av, aw, hown, hmod, hob⟩ := app_edge (w := W.drew) f t cp hoe (by show bi + 3 ≤ W.heap.size; omega) hl
  obtain ⟨a', c', e'⟩ := hown.shape
  generalize (es ++ [(⟨f, t, cp⟩ : GEdge)]).length = l' at e'
  subst e'
  have hmod' : Mod (fun q => v.ownBlock = some q) W w1 := ⟨hmod.os, hmod.tape, hmod.output, hmod.size, hmod.block⟩
  have bb := h.bb
  have hne : ∀ q, q < bi + 3 → ¬ v.ownBlock = some q := fun q hq e => by have := (h.own_ge e).1; omega
  have far : ∀ (p : Addr) (u : Value), W.cell? p = some u → v.ownBlock ≠ some p.block → w1.cell? p = some u := fun p u hp hn => (hmod'.cell (World.block_lt_of_cell? W p hp) hn).trans hp
  have og1 := h.og.mod hmod' (hne _ (by omega))
  have hM : Mod (fun q => v.ownBlock = some q ∨ q = bi + 2) W (w1.setCell ⟨bi + 2, 1, none⟩ (.slice a' l' c')) := (hmod'.mono (fun k _ hk => .inl hk)).setCell (p := ⟨bi + 2, 1, none⟩) (.inl (.inr rfl)) _
  have hs1 : (w1.setCell ⟨bi + 2, 1, none⟩ (.slice a' l' c')).heap.size = w1.heap.size := by simp [World.setCell]
  refine ⟨ap, a', l', c', w1, av, aw, ?_, og1.frozen 1, Lib.hid far, Lib.hid ?_, Lib.hid hM, Lib.hid hob⟩
  · have := og1.cell (i := 1) (by omega)
    simpa [gcell] using this
  · have hne2 : ∀ q, q < bi + 2 → ¬ (v.ownBlock = some q ∨ q = bi + 2) := fun q hq e => by
      rcases e with e | e
      · exact hne q (by omega) e
      · omega
    have l0 := World.block_lt_of_cell? W _ h.k0
    have l9 := World.block_lt_of_cell? W _ h.k9
    have l10 := World.block_lt_of_cell? W _ h.k10
    refine ⟨(hM.cell l0 (hne2 _ (by dsimp only; omega))).trans h.k0, h.o5.mod hM (hne2 _ (by omega)), (hM.cell l9 (hne2 _ (by dsimp only; omega))).trans h.k9, (hM.cell l10 (hne2 _ (by dsimp only; omega))).trans h.k10, ?_, ?_, ?_, bb⟩
    · refine (og1.set 1 (.slice a' l' c')).congr (fun i hi => ?_)
      unfold gcell
      rcases i with _ | _ | i
      · simp
      · simp
      · omega
    · refine OwnR.mod hown ((Mod.refl (fun q => q = bi + 2) w1).setCell (p := ⟨bi + 2, 1, none⟩) (.inl rfl) _) (fun k hk e => ?_)
      have := (World.ownsRow.lt hown k hk).1
      omega
    · refine h.bel.trans (hM.below h.bel.size (fun k hk hq => ?_))
      rcases hq with hq | hq
      · have := (h.own_ge hq).1; omega
      · omega
end
end Go.Proofs.Ytgfcnkfmgpakkaa
