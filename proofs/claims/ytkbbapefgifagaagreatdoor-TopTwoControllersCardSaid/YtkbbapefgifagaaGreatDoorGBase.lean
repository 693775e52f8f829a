/-
Several texts in one: Base, Base2, AppR, RegIn, RegIn2, RegZ, Marks.
-/
import Derived.WalkKit
import Derived.WalkSpells
import Derived.WalkLawsBesides
import Derived.Lib.Hide
import Derived.Deep.OwnRows
import Derived.RegionTactic
import Derived.Deep.AppendLies
import Derived.BigRegion
import Derived.OwnWalk
import Derived.Laws.OwnMore
import Derived.Maps.AppendAt
import Derived.OrdersHeld
import Derived.OrdersIn
import Derived.Deep.RegionHeld
import Derived.RangeFuncCalls
import Derived.RangeFuncNested
import Derived.RangeFuncLeaves
/-
Words for memory that all the walks of this claim use: a slice that reads as a list, a block that the call owns, what a call may have changed.
-/
namespace Go.Proofs.YtkbbapefgifagaaGreatDoor
open Go.RowKit

/-- A cell that is there lies in a block that is there. -/
theorem zb {w : World} {a : Addr} {u : Value} (h : w.cell? a = some u) : a.block < w.heap.size := World.block_lt_of_cell? w a h

/-- The slice that begins at A reads, cell by cell, as the list xs (elements of sz cells). -/
def Rd {α : Type} (sz : Nat) (enc : α → List Value) (w : World) (A : Option Addr) (xs : List α) : Prop :=
  0 < xs.length → ∃ b off, A = some ⟨b, off, none⟩ ∧ b < w.heap.size ∧ ∀ k x, xs[k]? = some x → ∀ j v, (enc x)[j]? = some v → w.cell? ⟨b, off + k * sz + j, none⟩ = some v

def encI (x : Int) : List Value := [.int .i64 x]
def encB (x : Bool) : List Value := [.bool x]

/-- Only blocks in M, and new ones, may have changed. -/
structure Mod (M : Nat → Prop) (w w' : World) : Prop where
  os : w'.os = w.os
  tape : w'.tape = w.tape
  output : w'.output = w.output
  size : w.heap.size ≤ w'.heap.size
  block : ∀ k, k < w.heap.size → ¬ M k → w'.heap[k]? = w.heap[k]?

theorem Mod.refl (M : Nat → Prop) (w : World) : Mod M w w := ⟨rfl, rfl, rfl, Nat.le_refl _, fun _ _ _ => rfl⟩
theorem Mod.trans {M : Nat → Prop} {a b c : World} (h : Mod M a b) (k : Mod M b c) : Mod M a c :=
  ⟨k.os.trans h.os, k.tape.trans h.tape, k.output.trans h.output, Nat.le_trans h.size k.size, fun i hi hn => (k.block i (Nat.lt_of_lt_of_le hi h.size) hn).trans (h.block i hi hn)⟩
theorem Mod.mono {M M' : Nat → Prop} {a b : World} (h : Mod M a b) (hm : ∀ k, k < a.heap.size → M k → M' k) : Mod M' a b :=
  ⟨h.os, h.tape, h.output, h.size, fun i hi hn => h.block i hi (fun x => hn (hm i hi x))⟩
theorem Mod.of_below {B : Nat} {a b : World} (h : Below B a b) : Mod (fun k => B ≤ k) a b :=
  ⟨h.os, h.tape, h.output, h.size, fun i _ hn => h.block i (by omega)⟩
theorem Mod.below {M : Nat → Prop} {a b : World} (h : Mod M a b) {B : Nat} (hB : B ≤ a.heap.size) (hm : ∀ k, k < a.heap.size → M k → B ≤ k) : Below B a b :=
  ⟨h.os, h.tape, h.output, h.size, fun i hi => h.block i (by omega) (fun x => by have := hm i (by omega) x; omega)⟩
theorem Mod.drew {M : Nat → Prop} {a w : World} (h : Mod M a w) : Mod M a w.drew := ⟨h.os, h.tape, h.output, h.size, h.block⟩
theorem Mod.drewN {M : Nat → Prop} {a w : World} (h : Mod M a w) (n : Nat) : Mod M a (w.drewN n) := ⟨h.os, h.tape, h.output, h.size, h.block⟩
theorem Mod.alloc {M : Nat → Prop} {a w : World} (h : Mod M a w) (o : Obj) : Mod M a (w.alloc o) :=
  h.trans ⟨rfl, rfl, rfl, by simp, fun k hk _ => Below.heap_alloc _ _ _ hk⟩
theorem Mod.setCell {M : Nat → Prop} {a w : World} (h : Mod M a w) {p : Addr} (hp : M p.block ∨ a.heap.size ≤ p.block) (u : Value) : Mod M a (w.setCell p u) :=
  ⟨h.os, h.tape, h.output, by simpa [World.setCell] using h.size, fun i hi hn => (Below.heap_setCell w p u i (by
    rintro rfl
    rcases hp with hp | hp
    · exact hn hp
    · omega)).trans (h.block i hi hn)⟩
theorem Mod.grown {M : Nat → Prop} {a w w' : World} {row : Option Nat} (h : Mod M a w) (hg : w.grownBy w' row) (hr : ∀ k, row = some k → M k ∨ a.heap.size ≤ k) : Mod M a w' :=
  ⟨hg.os.trans h.os, hg.tape.trans h.tape, hg.output.trans h.output, Nat.le_trans h.size hg.size, fun i hi hn => (hg.block i (Nat.lt_of_lt_of_le hi h.size) (fun e => by
    rcases hr i e.symm with x | x
    · exact hn x
    · omega)).trans (h.block i hi hn)⟩
theorem Mod.cell {M : Nat → Prop} {w w' : World} (h : Mod M w w') {p : Addr} (hp : p.block < w.heap.size) (hn : ¬ M p.block) : w'.cell? p = w.cell? p := World.cell?_of_block (w := w) (h.block p.block hp hn)
theorem Mod.frozen {M : Nat → Prop} {w w' : World} (h : Mod M w w') {p : Addr} (hp : p.block < w.heap.size) (hn : ¬ M p.block) : w'.frozen? p = w.frozen? p := World.frozen?_of_block (w := w) (h.block p.block hp hn)

theorem below_drewN {B : Nat} {a w : World} (h : Below B a w) (n : Nat) : Below B a (w.drewN n) := ⟨h.os, h.tape, h.output, h.size, h.block⟩
/-- A call that changed nothing old, behind another. -/
theorem below_then {a b c : World} (h : Below a.heap.size a b) (k : Below b.heap.size b c) : Below a.heap.size a c := h.trans (k.mono h.size)

section
variable {α : Type} {sz : Nat} {enc : α → List Value} {w w' : World} {A : Option Addr} {xs : List α}
theorem Rd.nil : Rd sz enc w A [] := fun h => absurd h (by simp)
theorem Rd.mod {M : Nat → Prop} (h : Rd sz enc w A xs) (hm : Mod M w w') (hn : ∀ a, A = some a → 0 < xs.length → ¬ M a.block) : Rd sz enc w' A xs := by
  intro h0
  obtain ⟨b, off, hA, hlt, hc⟩ := h h0
  have hnb : ¬ M b := hn ⟨b, off, none⟩ hA h0
  exact ⟨b, off, hA, Nat.lt_of_lt_of_le hlt hm.size, fun k x hx j v hv => (hm.cell (p := ⟨b, off + k * sz + j, none⟩) hlt hnb).trans (hc k x hx j v hv)⟩
theorem Rd.keep (h : Rd sz enc w A xs) (hb : Below w.heap.size w w') : Rd sz enc w' A xs := by
  intro hn
  obtain ⟨b, off, hA, hlt, hc⟩ := h hn
  exact ⟨b, off, hA, Nat.lt_of_lt_of_le hlt hb.size, fun k x hx j v hv => (hb.cell (p := ⟨b, _, none⟩) hlt).trans (hc k x hx j v hv)⟩
theorem Rd.drewN (h : Rd sz enc w A xs) (n : Nat) : Rd sz enc (w.drewN n) A xs := h
theorem Rd.at_ (h : Rd sz enc w A xs) {k : Nat} (hk : k < xs.length) :
    ∃ b off x, A = some ⟨b, off, none⟩ ∧ b < w.heap.size ∧ xs[k]? = some x ∧ ∀ j v, (enc x)[j]? = some v → w.cell? ⟨b, off + k * sz + j, none⟩ = some v := by
  obtain ⟨b, off, hA, hlt, hc⟩ := h (by omega)
  have hx : xs[k]? = some xs[k] := List.getElem?_eq_getElem hk
  exact ⟨b, off, xs[k], hA, hlt, hx, hc k _ hx⟩
end
theorem Rd.int {w : World} {A : Option Addr} {xs : List Int} (h : Rd 1 encI w A xs) {k : Nat} (hk : k < xs.length) :
    ∃ b off, A = some ⟨b, off, none⟩ ∧ b < w.heap.size ∧ w.cell? ⟨b, off + k, none⟩ = some (.int .i64 (xs[k]?.getD 0)) := by
  obtain ⟨b, off, x, hA, hlt, hx, hc⟩ := h.at_ hk
  exact ⟨b, off, hA, hlt, by have := hc 0 _ rfl; simpa [hx] using this⟩
theorem Rd.bool {w : World} {A : Option Addr} {xs : List Bool} (h : Rd 1 encB w A xs) {k : Nat} (hk : k < xs.length) :
    ∃ b off, A = some ⟨b, off, none⟩ ∧ b < w.heap.size ∧ w.cell? ⟨b, off + k, none⟩ = some (.bool (xs[k]?.getD false)) := by
  obtain ⟨b, off, x, hA, hlt, hx, hc⟩ := h.at_ hk
  exact ⟨b, off, hA, hlt, by have := hc 0 _ rfl; simpa [hx] using this⟩

/-- Block g is a row of n cells of its own, none frozen: cell i holds f i. -/
def Own (w : World) (g : Nat) (t : TypeId) (n : Nat) (f : Nat → Value) : Prop :=
  ∃ cs : Array Value, w.heap[g]? = some (.cells cs t (0, 0)) ∧ cs.size = n ∧ ∀ i, i < n → cs[i]? = some (f i)
section
variable {w w' : World} {g : Nat} {t : TypeId} {n : Nat} {f : Nat → Value}
theorem Own.lt (h : Own w g t n f) : g < w.heap.size := by
  obtain ⟨cs, hb, _⟩ := h
  rcases Nat.lt_or_ge g w.heap.size with hlt | hge
  · exact hlt
  · rw [Array.getElem?_eq_none hge] at hb; cases hb
theorem Own.cell (h : Own w g t n f) {i : Nat} (hi : i < n) : w.cell? ⟨g, i, none⟩ = some (f i) := by
  obtain ⟨cs, hb, hs, hc⟩ := h
  simp [World.cell?, hb, hc i hi]
theorem Own.frozen (h : Own w g t n f) (i : Nat) : w.frozen? ⟨g, i, none⟩ = false := by
  obtain ⟨cs, hb, _⟩ := h
  simp [World.frozen?, hb]
theorem Own.congr (h : Own w g t n f) {f' : Nat → Value} (e : ∀ i, i < n → f i = f' i) : Own w g t n f' := by
  obtain ⟨cs, hb, hs, hc⟩ := h
  exact ⟨cs, hb, hs, fun i hi => by rw [hc i hi, e i hi]⟩
theorem Own.new (w : World) (t : TypeId) (cs : Array Value) (d : Value) : Own (w.alloc (.cells cs t)) w.heap.size t cs.size (fun i => cs[i]?.getD d) := by
  refine ⟨cs, ?_, rfl, fun i hi => by simp [Array.getElem?_eq_getElem hi]⟩
  show (w.heap.push _)[w.heap.size]? = _
  simp
theorem Own.mod {M : Nat → Prop} (h : Own w g t n f) (hm : Mod M w w') (hn : ¬ M g) : Own w' g t n f := by
  have hl := h.lt
  obtain ⟨cs, hb, hs, hc⟩ := h
  exact ⟨cs, (hm.block g hl hn).trans hb, hs, hc⟩
theorem Own.keep {B : Nat} (h : Own w g t n f) (hb : Below B w w') (hg : g < B) : Own w' g t n f := by
  obtain ⟨cs, hh, hs, hc⟩ := h
  exact ⟨cs, (hb.block g hg).trans hh, hs, hc⟩
theorem Own.drew (h : Own w g t n f) : Own w.drew g t n f := h
theorem Own.drewN (h : Own w g t n f) (k : Nat) : Own (w.drewN k) g t n f := h
theorem Own.alloc (h : Own w g t n f) (o : Obj) : Own (w.alloc o) g t n f := by
  have hl := h.lt
  obtain ⟨cs, hb, hs, hc⟩ := h
  exact ⟨cs, (Below.heap_alloc w o g hl).trans hb, hs, hc⟩
theorem Own.other (h : Own w g t n f) {p : Addr} (hp : g ≠ p.block) (u : Value) : Own (w.setCell p u) g t n f := by
  obtain ⟨cs, hb, hs, hc⟩ := h
  exact ⟨cs, (Below.heap_setCell w p u g hp).trans hb, hs, hc⟩
theorem Own.set (h : Own w g t n f) (i : Nat) (u : Value) : Own (w.setCell ⟨g, i, none⟩ u) g t n (fun j => if j = i then u else f j) := by
  obtain ⟨cs, hb, hs, hc⟩ := h
  refine ⟨cs.setIfInBounds i u, ?_, by simpa using hs, fun j hj => ?_⟩
  · simp [World.setCell, Array.getElem?_modify, hb]
  · rw [Array.getElem?_setIfInBounds]
    by_cases e : i = j
    · subst e; simp [hs, hj]
    · have e' : ¬ j = i := fun x => e x.symm
      simp [e, e', hc j hj]
end
/-- A whole own row, read as a list. -/
theorem Own.rd {α : Type} {sz : Nat} {enc : α → List Value} {w : World} {g : Nat} {t : TypeId} {n : Nat} {f : Nat → Value} (h : Own w g t n f) {xs : List α} (hn : xs.length * sz ≤ n) (hsz : ∀ x, (enc x).length = sz)
    (hf : ∀ k x, xs[k]? = some x → ∀ j v, (enc x)[j]? = some v → f (k * sz + j) = v) : Rd sz enc w (some ⟨g, 0, none⟩) xs := by
  intro _
  refine ⟨g, 0, rfl, h.lt, fun k x hx j v hv => ?_⟩
  have hk : k < xs.length := (List.getElem?_eq_some_iff.1 hx).1
  have hj : j < sz := by rw [← hsz x]; exact (List.getElem?_eq_some_iff.1 hv).1
  have hm : k * sz + sz ≤ xs.length * sz := by rw [← Nat.succ_mul]; exact Nat.mul_le_mul_right _ hk
  rw [Nat.zero_add, h.cell (by omega), hf k x hx j v hv]
theorem take_snoc {α : Type} {xs : List α} {k : Nat} {x : α} (h : xs[k]? = some x) : xs.take (k + 1) = xs.take k ++ [x] := by
  obtain ⟨hk, e⟩ := List.getElem?_eq_some_iff.1 h
  rw [List.take_succ_eq_append_getElem hk, e]
theorem ret_int {k : IntKind} {a b : Int} (h : a = b) : Ending.returned (.int k a) = .returned (.int k b) := by rw [h]
theorem ret_bool {a b : Bool} (h : a = b) : Ending.returned (.bool a) = .returned (.bool b) := by rw [h]
theorem val_int {k : IntKind} {a b : Int} (h : a = b) : Value.int k a = .int k b := by rw [h]
/-- Where the walk stands: of the world keep only what R says. -/
theorem wp_world {P : Program} {c : Code} {Q : Exit → Act → World → Prop} {a : Act} {w : World} (R : World → Prop) (hR : R w) (h : ∀ w', R w' → Code.wp P c Q a w') : Code.wp P c Q a w := h w hR

/-- make([]T, n) for a number n that is not negative. -/
theorem mk_row {P : Program} (t e : TypeId) (z : Value) (sz bytes : Nat) (ht : P.underlying t = some (.slice e)) (hinfo : (P.info? e).map (fun i => (i.zero, i.size, i.bytes)) = some (some z, sz, bytes))
    (n : Int) (h0 : 0 ≤ n) (hb : (bytes : Int) * n ≤ 281474976710656) (h63 : n ≤ 9223372036854775807) (W : World) :
    (Instr.makeSlice t (.int .i64 n) (.int .i64 n)).run P W = .ok (.slice (some ⟨W.heap.size, 0, none⟩) n.toNat n.toNat) (W.alloc (.cells (madeCells z.cells (n.toNat * sz)) e)) := by
  obtain ⟨i, hi, hzz⟩ := Option.map_eq_some_iff.1 hinfo
  simp only [Prod.mk.injEq] at hzz
  obtain ⟨hz, hs, hbb⟩ := hzz
  have := run_make W t e i z ht hi hz .i64 .i64 n n h0 (Int.le_refl _) (by rw [hbb]; exact hb) h63
  rw [hs] at this
  exact this
theorem made_at (z : Array Value) (n i : Nat) (hi : i < n) : (madeCells z n)[i]? = some (z[i % z.size]!) := by
  unfold madeCells
  simp [hi]
/-- The block of a new row of zeros. -/
theorem Own.made (w : World) (t : TypeId) (z : Array Value) (n : Nat) : Own (w.alloc (.cells (madeCells z n) t)) w.heap.size t n (fun i => z[i % z.size]!) := by
  refine ⟨madeCells z n, ?_, size_madeCells z n, fun i hi => made_at z n i hi⟩
  show (w.heap.push _)[w.heap.size]? = _
  simp
end Go.Proofs.YtkbbapefgifagaaGreatDoor
/-
More words for memory and for the walk: appends as rules of the walk, regions taken out of a function's code, posts behind a name.
-/
namespace Go.Proofs.YtkbbapefgifagaaGreatDoor
open Go.RowKit

/-- A statement that ends by itself: what follows is kept behind a name. -/
theorem wp_normal {P : Program} {c : Code} {Q : Exit → Act → World → Prop} {a : Act} {w : World}
    (h : ∀ K : Act → World → Prop, (∀ a' w', Q .normal a' w' → K a' w') → Code.wp P c (Exit.then K (fun _ _ _ => False)) a w) : Code.wp P c Q a w := by
  refine wp_mono (h (Q .normal) (fun _ _ hq => hq)) ?_
  intro e a' w' hq
  cases e <;> first | exact hq | exact hq.elim
/-- An append that runs to its end; its value and its world. -/
def Appends (P : Program) (w : World) (t ty : TypeId) (v x : Value) : Prop := ∃ v' w', (Builtin.append_ #[t, t] ty #[v, x]).run P w = .ok v' w'
noncomputable def appV (P : Program) (w : World) (t ty : TypeId) (v x : Value) : Value := match (Builtin.append_ #[t, t] ty #[v, x]).run P w with | .ok v' _ => v' | _ => undef
noncomputable def appW (P : Program) (w : World) (t ty : TypeId) (v x : Value) : World := match (Builtin.append_ #[t, t] ty #[v, x]).run P w with | .ok _ w' => w' | _ => w
theorem append_pre {P : Program} {w : World} {t ty : TypeId} {v x : Value} (h : Appends P w t ty v x) : (Builtin.append_ #[t, t] ty #[v, x]).run P w = .ok (appV P w t ty v x) (appW P w t ty v x) := by
  obtain ⟨v', w', e⟩ := h
  unfold appV appW
  rw [e]
theorem append_op {P : Program} {w : World} {t ty : TypeId} {s x : Operand} {d : Option Tmp} {pos : String} {after : Array Go.Edge} {guard : Option (Nat × Bool)} {a : Act} {K : Act → World → Prop} {Q : Exit → Act → World → Prop}
    (h : Appends P w t ty (a.eval s) (a.eval x)) : Oper.wp P ⟨d, .call { callee := .builtin .append, args := #[s, x], argTypes := #[t, t] }, ty, pos, after, guard⟩ a w K Q = K (a.put d (appV P w t ty (a.eval s) (a.eval x))) (appW P w t ty (a.eval s) (a.eval x)) := by
  unfold Oper.wp execOp
  simp only [resolve, invoke, builtin, Sem.run_bind, Sem.run_pure, Result.andThen_ok, List.map_toArray, List.map_cons, List.map_nil, append_pre h]
  rfl
theorem appends_of {P : Program} {w : World} {t ty : TypeId} {v x v' : Value} {w' : World} (h : (Builtin.append_ #[t, t] ty #[v, x]).run P w = .ok v' w') : Appends P w t ty v x ∧ appV P w t ty v x = v' ∧ appW P w t ty v x = w' :=
  ⟨⟨v', w', h⟩, by unfold appV; rw [h], by unfold appW; rw [h]⟩
attribute [go_sem ↓] append_op
end Go.Proofs.YtkbbapefgifagaaGreatDoor
/-
Appending rows of any kind to a list of the call's own: what the append runs to, as rules of the walk.
-/
namespace Go.Proofs.YtkbbapefgifagaaGreatDoor
open Go.RowKit

theorem flatR_len {α : Type} {sz : Nat} {enc : α → List Value} (hsz : ∀ x, (enc x).length = sz) : ∀ xs : List α, (xs.flatMap enc).length = xs.length * sz
  | [] => by simp
  | y :: ys => by
    rw [List.flatMap_cons, List.length_append, flatR_len hsz ys, List.length_cons, hsz, Nat.add_mul]
    omega
theorem flatR_at {α : Type} {sz : Nat} {enc : α → List Value} (hsz : ∀ x, (enc x).length = sz) : ∀ (xs : List α) (k j : Nat) (x : α) (v : Value), xs[k]? = some x → (enc x)[j]? = some v → (xs.flatMap enc)[k * sz + j]? = some v
  | y :: ys, 0, j, x, v, hx, hv => by
    simp at hx
    subst hx
    rw [List.flatMap_cons, List.getElem?_append_left (by rw [Nat.zero_mul, Nat.zero_add]; exact (List.getElem?_eq_some_iff.1 hv).1), Nat.zero_mul, Nat.zero_add]
    exact hv
  | y :: ys, k + 1, j, x, v, hx, hv => by
    rw [List.flatMap_cons, List.getElem?_append_right (by rw [hsz, Nat.add_mul]; omega), hsz, show (k + 1) * sz + j - sz = k * sz + j by rw [Nat.add_mul]; omega]
    exact flatR_at hsz ys k j x v (by simpa using hx) hv
/-- A place of the flat row is a place of one of the rows. -/
theorem flatR_inv {α : Type} {sz : Nat} {enc : α → List Value} (hsz : ∀ x, (enc x).length = sz) (h0 : 0 < sz) (xs : List α) (j : Nat) (v : Value) (h : (xs.flatMap enc)[j]? = some v) :
    ∃ x, xs[j / sz]? = some x ∧ (enc x)[j % sz]? = some v := by
  have hl := (List.getElem?_eq_some_iff.1 h).1
  rw [flatR_len hsz] at hl
  have hk : j / sz < xs.length := (Nat.div_lt_iff_lt_mul h0).2 hl
  have hx : xs[j / sz]? = some xs[j / sz] := List.getElem?_eq_getElem hk
  have hm : j % sz < (enc xs[j / sz]).length := by rw [hsz]; exact Nat.mod_lt _ h0
  have hv : (enc xs[j / sz])[j % sz]? = some (enc xs[j / sz])[j % sz] := List.getElem?_eq_getElem hm
  have := flatR_at hsz xs _ _ _ _ hx hv
  rw [Nat.mul_comm, Nat.div_add_mod] at this
  rw [h] at this
  exact ⟨_, hx, by rw [hv]; exact this.symm⟩
/-- The slice value v is the call's own (blocks from base on) and holds the rows xs. -/
def OwnR {α : Type} (t : TypeId) (sz : Nat) (enc : α → List Value) (w : World) (base : Nat) (v : Value) (xs : List α) : Prop := w.ownsRow base t sz v xs.length (xs.flatMap enc)
section
variable {α : Type} {t : TypeId} {sz : Nat} {enc : α → List Value} {w w' : World} {base : Nat} {v : Value} {xs : List α}
theorem OwnR.nil (w : World) (base : Nat) : OwnR t sz enc w base (.slice none 0 0) [] := World.ownsRow_nil _ _ _ _
theorem OwnR.shape (h : OwnR t sz enc w base v xs) : ∃ a c, v = .slice a xs.length c := by
  rcases h.2 with ⟨h1, h2⟩ | ⟨g, cap, cur, hv, _⟩
  · exact ⟨none, 0, by rw [h1, h2]⟩
  · exact ⟨_, cap, hv⟩
theorem OwnR.mod {M : Nat → Prop} (h : OwnR t sz enc w base v xs) (hm : Mod M w w') (hn : ∀ k, v.ownBlock = some k → ¬ M k) : OwnR t sz enc w' base v xs := by
  refine ⟨h.1, ?_⟩
  rcases h.2 with x | ⟨g, cap, cur, rfl, hb, hgg, rest⟩
  · exact .inl x
  · refine .inr ⟨g, cap, cur, rfl, hb, ?_, rest⟩
    rw [hm.block g (Array.getElem?_eq_some_iff.1 hgg).1 (hn g rfl)]
    exact hgg
theorem OwnR.keep (h : OwnR t sz enc w base v xs) (hb : Below w.heap.size w w') : OwnR t sz enc w' base v xs :=
  h.mod (Mod.of_below hb) (fun k hk => by have := (World.ownsRow.lt h k hk).2; omega)
theorem OwnR.alloc (h : OwnR t sz enc w base v xs) (o : Obj) : OwnR t sz enc (w.alloc o) base v xs := World.ownsRow.alloc h o
theorem OwnR.rd (hsz : ∀ x, (enc x).length = sz) (h : OwnR t sz enc w base v xs) : ∃ a c, v = .slice a xs.length c ∧ Rd sz enc w a xs := by
  obtain ⟨a, c, hv⟩ := h.shape
  refine ⟨a, c, hv, ?_⟩
  intro h0
  obtain ⟨g, cap, hv', _, hlt⟩ := World.ownsRow.form h h0
  rw [hv] at hv'
  injection hv' with e1 _ _
  subst e1
  refine ⟨g, 0, rfl, hlt, ?_⟩
  intro k x hx j u hu
  have := World.ownsRow.cells h (g := g) (by rw [hv]; rfl) (k * sz + j) u (flatR_at hsz xs k j x u hx hu)
  have hadd : (⟨g, 0, none⟩ : Addr).add (k * sz + j) = ⟨g, k * sz + j, none⟩ := by
    unfold Addr.add
    by_cases h : k * sz + j = 0
    · rw [if_pos h, h]
    · rw [if_neg h]
      simp
  rw [hadd] at this
  rw [Nat.zero_add]
  exact this
theorem OwnR.below {w1 : World} (h : OwnR t sz enc w base v xs) (hm : Mod (fun k => v.ownBlock = some k) w w1) (hb : base ≤ w.heap.size) : Below base w w1 :=
  hm.below hb (fun k _ hk => (World.ownsRow.lt h k hk).1)
/-- An own row of cells of a made slice with nothing in it yet. -/
theorem OwnR.made (w : World) (cur : Array Value) (cap : Nat) (hm : cap ≤ maxLen) (hs : cur.size = cap * sz) (hb : base ≤ w.heap.size) : OwnR t sz enc (w.alloc (.cells cur t)) base (.slice (some ⟨w.heap.size, 0, none⟩) 0 cap) ([] : List α) := by
  refine ⟨by simp, .inr ⟨w.heap.size, cap, cur, rfl, hb, heap_alloc_new w _, Nat.zero_le _, hm, hs, by simp⟩⟩
end
theorem app_rows {P : Program} {α : Type} {t e ty : TypeId} {sz bytes : Nat} {z : Value} {enc : α → List Value} {w : World} {base : Nat} {v : Value} {xs ys : List α} {A : Option Addr} {c m : Nat}
    (hinfo : (P.info? e).map (fun i => (i.zero, i.size, i.bytes)) = some (some z, sz, bytes)) (ht : P.underlying t = some (.slice e)) (hzs : z.cells.size = sz) (h0 : 0 < sz) (hsz : ∀ x, (enc x).length = sz) (hone : ∀ x u, u ∈ enc x → u.oneCell' = true)
    (h : OwnR e sz enc w base v xs) (hy : Rd sz enc w A ys) (hym : ys.length = m) (hA : ∃ a, A = some a) (hb : base ≤ w.heap.size) (hl : xs.length + m ≤ maxLen) (hbytes : (xs.length + m) * bytes ≤ 140737488355328) :
    Appends P w t ty v (.slice A m c) ∧
    ∃ v' w1, appV P w t ty v (.slice A m c) = v' ∧ appW P w t ty v (.slice A m c) = w1 ∧ OwnR e sz enc w1 base v' (xs ++ ys) ∧ Mod (fun k => v.ownBlock = some k) w w1 ∧ (v'.ownBlock = v.ownBlock ∨ v'.ownBlock = some w.heap.size) := by
  obtain ⟨a, rfl⟩ := hA
  obtain ⟨i0, hi0, hz0, hz1, hz2⟩ := info_parts hinfo
  obtain ⟨v', w1, hrun, hown1, hgrow, _, hat⟩ := run_append_own_at (P := P) w base t ty e i0 _ sz bytes ht hi0 hz0 hz1 hz2 hzs h0 v xs.length (xs.flatMap enc) h a m c (ys.flatMap enc) (by rw [flatR_len hsz, hym])
    (fun j u hu => by
      obtain ⟨x, hx, hv⟩ := flatR_inv hsz h0 ys j u hu
      have hpos : 0 < ys.length := Nat.lt_of_le_of_lt (Nat.zero_le _) (List.getElem?_eq_some_iff.1 hx).1
      obtain ⟨b, off, ha, _, hc⟩ := hy hpos
      have := hc _ _ hx _ _ hv
      injection ha with ha
      subst ha
      rw [← this]
      have e : off + j / sz * sz + j % sz = off + j := by rw [Nat.add_assoc, Nat.mul_comm, Nat.div_add_mod]
      rw [e]
      unfold Addr.add
      by_cases hj : j = 0 <;> simp [hj])
    (fun u hu => by
      obtain ⟨x, _, hx⟩ := List.mem_flatMap.1 hu
      exact hone x u hx) hl hbytes hb
  obtain ⟨ap1, ap2, ap3⟩ := appends_of hrun
  refine ⟨ap1, _, w1, ap2, ap3, ?_, (Mod.refl _ w).grown hgrow (fun k hk => .inl hk), hat⟩
  unfold OwnR
  rw [List.length_append, List.flatMap_append, hym]
  exact hown1
theorem app_none {P : Program} {α : Type} {t e ty : TypeId} {sz bytes : Nat} {z : Value} {enc : α → List Value} {w : World} {base : Nat} {v : Value} {xs : List α} {c : Nat}
    (hinfo : (P.info? e).map (fun i => (i.zero, i.size, i.bytes)) = some (some z, sz, bytes)) (ht : P.underlying t = some (.slice e)) (h : OwnR e sz enc w base v xs) :
    Appends P w t ty v (.slice none 0 c) ∧ appV P w t ty v (.slice none 0 c) = v ∧ appW P w t ty v (.slice none 0 c) = w := by
  obtain ⟨i0, hi0, _⟩ := info_parts hinfo
  have hrun : (Builtin.append_ #[t, t] ty #[v, .slice none 0 c]).run P w = .ok v w := by
    rcases h.2 with ⟨rfl, hn⟩ | ⟨g, cap, cur, rfl, _, _, hnc, _⟩
    · simp [Builtin.append_, run_underlying ht, sizeOf, typeInfo, hi0, Builtin.lenOf, Builtin.firstCells]
    · simp [Builtin.append_, run_underlying ht, sizeOf, typeInfo, hi0, Builtin.lenOf, Builtin.firstCells, hnc, storeCells]
  exact appends_of hrun
end Go.Proofs.YtkbbapefgifagaaGreatDoor
/-
A region whose order is drawn, inside a round: from the plain calculus to the fenced one, for operations that neither call nor defer.
-/
namespace Go.Proofs.YtkbbapefgifagaaGreatDoor

end Go.Proofs.YtkbbapefgifagaaGreatDoor
/-
A region whose order is drawn, inside a round of a wide fence: operations that may call, but do not defer.
-/
namespace Go.Proofs.YtkbbapefgifagaaGreatDoor
def noDefer : Op → Bool
  | .defer _ => false
  | _ => true
theorem rows_wide {P : Program} {n l : Nat} {row : String} {args : Array Value} {w : World} {R : Value → World → Prop} (h : Rows P row args w R) : RowsIn (Fence.wide.inRound l) n P row args w R :=
  fun c cs _ => let ⟨v, w', r, s⟩ := h c cs; ⟨v, w', r, stepsIn_wide.2 s⟩
theorem wide_upon {P : Program} {n l : Nat} {o : Oper} {a : Act} {K : Act → World → Prop} {Q : Exit → Act → World → Prop} {r : Result Next} (h : o.upon P a K Q r) : o.uponIn (Fence.wide.inRound l) n P a K Q r := by
  cases r with
  | ok x w =>
    cases x with
    | value v => exact h
    | skip => exact h
    | defer d => exact h
    | enter f args => exact ⟨fun h => (by simp [Fence.wide] at h), CallsIn.inRound l (callsIn_wide.2 h)⟩
    | row r args => exact ⟨fun h => (by simp [Fence.wide] at h), rows_wide h⟩
    | _ => exact h.elim
  | halt x w => cases x <;> exact h
theorem wide_wp {P : Program} {n l : Nat} {o : Oper} {a : Act} {w : World} {K : Act → World → Prop} {Q : Exit → Act → World → Prop} (hp : noDefer o.op = true) (h : o.wp P a w K Q) : o.wpIn (Fence.wide.inRound l) n P a w K Q :=
  ⟨fun _ _ => trivial, by
    rw [Oper.semAt_eq _ _ _ (fun c e => by rw [e] at hp; cases hp)]
    exact wide_upon h⟩
theorem any_wide {P : Program} {n l : Nat} {ops : Array Oper} {Q : Exit → Act → World → Prop} {md : Region.Mode} (hp : (ops.all fun o => noDefer o.op) = true) (hL : ¬ LetsOut Q) :
    ∀ (fuel : Nat) (listed : Array Bool) (a : Act) (w : World), wpAny P md ops Q fuel listed a w → wpAnyIn (Fence.wide.inRound l) n P md ops Q fuel listed a w := by
  have hp' : ∀ (i : Nat) (o : Oper), ops[i]? = some o → noDefer o.op = true := fun i o ho =>
    (Array.all_eq_true_iff_forall_mem.1 hp) o (Array.mem_of_getElem? ho)
  intro fuel
  induction fuel with
  | zero => intro listed a w h; exact h
  | succ fuel ih =>
    intro listed a w h
    refine ⟨h.1, fun i hi => ?_⟩
    have h1 := wpOp_mono (ih (listed.setIfInBounds i true)) (h.2 i hi)
    unfold wpOp at h1
    unfold wpOpIn
    cases ho : ops[i]? with
    | none => rw [ho] at h1; exact h1
    | some o =>
      rw [ho] at h1
      simp only at h1 ⊢
      by_cases hw : Region.wanted o (yielded ops a.tmps) = true
      · rw [if_pos hw] at h1 ⊢
        exact wide_wp (hp' i o ho) (h1.resolve_right fun h => hL h.2)
      · rw [if_neg hw] at h1 ⊢
        exact ⟨fun _ _ => trivial, h1⟩
end Go.Proofs.YtkbbapefgifagaaGreatDoor
/-
A region whose order is drawn, of which the last operations (Z) may break what holds till then: loads of a cell that the region itself stores into at its end may be taken first.
-/
namespace Go.Proofs.YtkbbapefgifagaaGreatDoor
section
variable {P : Program} {ops : Array Oper} {Q : Exit → Act → World → Prop} {md : Region.Mode} {S : World → Prop} {Z : List Nat}
def wpAnyZ (P : Program) (md : Region.Mode) (ops : Array Oper) (Q : Exit → Act → World → Prop) (S : World → Prop) (Z : List Nat) : Nat → Array Bool → Act → World → Prop
  | 0, listed, a, w => Region.ready md ops listed = [] ∧ Q .normal a w
  | fuel + 1, listed, a, w =>
    (Region.ready md ops listed = [] → Q .normal a w) ∧
    ∀ i ∈ Region.ready md ops listed, wpOp P ops Q i (fun a' w' => (i ∉ Z → S w') ∧ wpAnyZ P md ops Q S Z fuel (listed.setIfInBounds i true) a' w') a w
theorem wpAny_of_Z : ∀ (fuel : Nat) (listed : Array Bool) (a : Act) (w : World), wpAnyZ P md ops Q S Z fuel listed a w → wpAny P md ops Q fuel listed a w
  | 0, _, _, _, h => h
  | fuel + 1, _, _, _, h => ⟨h.1, fun i hi => wpOp_mono (fun a' w' h' => wpAny_of_Z fuel _ a' w' h'.2) (h.2 i hi)⟩
/-- As long as i has not come up, none of C comes up. -/
def blocks (md : Region.Mode) (ops : Array Oper) (listed : Array Bool) (i : Nat) (C : List Nat) : Bool :=
  C.all (fun c => !(listed.getD c true) && (match ops[c]? with | some o => o.after.any (fun e => Region.binds md e && (e.on == i || C.contains e.on)) | none => true))
theorem unlisted {listed : Array Bool} {i : Nat} (h : listed.getD i true = false) : listed.getD i false = false := by
  rcases Nat.lt_or_ge i listed.size with h' | h'
  · simp [h'] at h ⊢; exact h
  · simp [Array.getElem?_eq_none h'] at h
theorem blocks_not {listed : Array Bool} {i : Nat} {C : List Nat} (hb : blocks md ops listed i C = true) (hi : listed.getD i true = false) {c : Nat} (hc : c ∈ C) : c ∉ Region.ready md ops listed := by
  intro h
  obtain ⟨_, o, ho, hall⟩ := mem_ready.1 h
  unfold blocks at hb
  rw [List.all_eq_true] at hb
  have h1 := hb c hc
  rw [ho] at h1
  simp only [Bool.and_eq_true] at h1
  obtain ⟨q, hq, h2⟩ := Array.any_eq_true.1 h1.2
  have he := Array.getElem_mem hq
  generalize o.after[q] = e at he h2
  simp only [Bool.and_eq_true, Bool.or_eq_true, beq_iff_eq, List.contains_iff_mem] at h2
  have h3 := hall e he h2.1
  rcases h2.2 with h4 | h4
  · rw [h4, unlisted hi] at h3; cases h3
  · have h5 := hb e.on h4
    simp only [Bool.and_eq_true, Bool.not_eq_true'] at h5
    rw [unlisted h5.1] at h3; cases h3
theorem blocks_set {listed : Array Bool} {i j : Nat} {C : List Nat} (hb : blocks md ops listed i C = true) (hj : j ∉ C) : blocks md ops (listed.setIfInBounds j true) i C = true := by
  unfold blocks at *
  rw [List.all_eq_true] at *
  intro c hc
  have h1 := hb c hc
  rw [getD_set_ne true (fun e => hj (by rw [e]; exact hc))]
  exact h1
theorem wpAnyZ_first {i : Nat} {oi : Oper} {v : Value} {C : List Nat} (hi : ops[i]? = some oi) (hsel : ∀ (j : Nat) (o : Oper) cs b, ops[j]? = some o → o.op ≠ .select cs b)
    (hQ : ∀ c a w, Q (.panic c) (a.put oi.dst v) w → Q (.panic c) a w) (hZ : ∀ z, z ∈ Z → z ∈ C) :
    ∀ (fuel : Nat) (listed : Array Bool) (a : Act) (w : World),
      (∀ j oj, ops[j]? = some oj → j ≠ i → listed.getD j true = false → (∀ e ∈ oj.after, Region.binds md e = true → e.on ≠ i) → oi.apart ops oj = true) →
      blocks md ops listed i C = true → i ∈ Region.ready md ops listed → YieldsIf P ops S oi v a → S w →
      wpAnyZ P md ops Q S Z fuel (listed.setIfInBounds i true) (a.put oi.dst v) w → wpAnyZ P md ops Q S Z (fuel + 1) listed a w := by
  intro fuel
  induction fuel with
  | zero =>
    intro listed a w _ _ hr hy hS H
    refine ⟨fun h => (by rw [h] at hr; cases hr), fun j hj => ?_⟩
    by_cases hji : j = i
    · subst hji; exact hy.wpOp hi hS ⟨fun _ => hS, H⟩
    · have := ready_mono hj hji
      rw [H.1] at this
      cases this
  | succ fuel ih =>
    intro listed a w hfree hbl hr hy hS H
    refine ⟨fun h => (by rw [h] at hr; cases hr), fun j hj => ?_⟩
    by_cases hji : j = i
    · subst hji; exact hy.wpOp hi hS ⟨fun _ => hS, H⟩
    · have h1 := H.2 j (ready_mono hj hji)
      obtain ⟨hjun, oj, hoj, hall⟩ := mem_ready.1 hj
      have h0 := (mem_ready.1 hr).1
      have hjC : j ∉ C := fun hc => blocks_not hbl h0 hc hj
      have hnot : ∀ e ∈ oj.after, Region.binds md e = true → e.on ≠ i := fun e he hb heq => by
        have h1 := hall e he hb
        rw [heq, unlisted h0] at h1
        cases h1
      have h2 := wpOp_putIf hoj (hfree j oj hoj hji hjun hnot) (fun cs b => hsel i oi cs b hi) (fun cs b => hsel j oj cs b hoj) hQ hy h1
      have hfree' : ∀ k ok, ops[k]? = some ok → k ≠ i → (listed.setIfInBounds j true).getD k true = false →
          (∀ e ∈ ok.after, Region.binds md e = true → e.on ≠ i) → oi.apart ops ok = true := fun k ok hk hki hun hno => by
        refine hfree k ok hk hki ?_ hno
        by_cases hjk : j = k
        · subst hjk; exact hjun
        · rw [getD_set_ne true hjk] at hun; exact hun
      refine wpOp_mono (fun a' w' h3 => ⟨h3.2.1, ih (listed.setIfInBounds j true) a' w' hfree' (blocks_set hbl hjC) (ready_mono hr (Ne.symm hji)) h3.1 (h3.2.1 (fun hz => hjC (hZ j hz))) ?_⟩) h2
      rw [Array.setIfInBounds_comm _ _ hji]
      exact h3.2.2
/-- Take number i first; C: the operations of Z, and those that wait for i and for which Z waits. -/
theorem wpAnyZ_take {i : Nat} {oi : Oper} {v : Value} {fuel : Nat} {listed : Array Bool} {a : Act} {w : World} (C : List Nat) (hi : ops[i]? = some oi)
    (hs : Region.noSelect ops = true) (hf : Region.free md ops listed i = true) (hr : (Region.ready md ops listed).contains i = true) (hb : (blocks md ops listed i C && Z.all (fun z => C.contains z)) = true)
    (hQ : ∀ c a w, Q (.panic c) (a.put oi.dst v) w → Q (.panic c) a w) (hy : YieldsIf P ops S oi v a) (hS : S w)
    (h : wpAnyZ P md ops Q S Z fuel (listed.setIfInBounds i true) (a.put oi.dst v) w) : wpAnyZ P md ops Q S Z (fuel + 1) listed a w := by
  simp only [Bool.and_eq_true, List.all_eq_true, List.contains_iff_mem] at hb
  exact wpAnyZ_first hi (Region.noSelect_spec hs) hQ hb.2 fuel listed a w (Region.free_spec hi hf) hb.1 (by simpa using hr) hy hS h
/-- wpAnyZ_take, in few words. -/
theorem zt {i : Nat} {oi : Oper} {v : Value} {fuel : Nat} {listed : Array Bool} {a : Act} {w : World} (C : List Nat) (hy : ∀ w', S w' → (execOp a.eval oi).run P w' = .ok (.value v) w') (hS : S w)
    (h : wpAnyZ P md ops Q S Z fuel (listed.setIfInBounds i true) (a.put oi.dst v) w) (hi : ops[i]? = some oi := by exact rfl)
    (hs : Region.noSelect ops = true := by kernel_rfl) (hf : Region.free md ops listed i = true := by kernel_rfl) (hr : (Region.ready md ops listed).contains i = true := by kernel_rfl) (hb : (blocks md ops listed i C && Z.all (fun z => C.contains z)) = true := by kernel_rfl)
    (hQ : ∀ c a w, Q (.panic c) (a.put oi.dst v) w → Q (.panic c) a w := by exact fun _ _ _ h => h) (hw : Region.wanted oi (yielded ops a.tmps) = true := by kernel_rfl) : wpAnyZ P md ops Q S Z (fuel + 1) listed a w :=
  wpAnyZ_take C hi hs hf hr hb hQ (Or.inl ⟨hw, hy⟩) hS h
/-- The only one that may come up. -/
theorem wpAnyZ_one {i : Nat} {o : Oper} {fuel : Nat} {listed : Array Bool} {a : Act} {w : World} (hr : Region.ready md ops listed = [i]) (ho : ops[i]? = some o)
    (h : ∀ K' : Act → World → Prop, Shut (∀ a w, S w → (S w → wpAnyZ P md ops Q S Z fuel (listed.setIfInBounds i true) a w) → K' a w) → if Region.wanted o (yielded ops a.tmps) = true then Oper.wp P o a w K' Q else K' (a.put o.dst undef) w) :
    wpAnyZ P md ops Q S Z (fuel + 1) listed a w := by
  refine ⟨fun h0 => absurd (hr ▸ h0) (by simp), ?_⟩
  rw [hr]
  intro j hj
  rw [List.mem_singleton] at hj
  subst hj
  exact wpOp_step ho (fun K' hK => h K' (fun a w hS hW => hK a w ⟨fun _ => hS, hW hS⟩))
/-- wpAnyZ_one, in few words. -/
theorem zo (i : Nat) {o : Oper} {fuel : Nat} {listed : Array Bool} {a : Act} {w : World}
    (h : ∀ K' : Act → World → Prop, Shut (∀ a w, S w → (S w → wpAnyZ P md ops Q S Z fuel (listed.setIfInBounds i true) a w) → K' a w) → if Region.wanted o (yielded ops a.tmps) = true then Oper.wp P o a w K' Q else K' (a.put o.dst undef) w)
    (hr : Region.ready md ops listed = [i] := by kernel_rfl) (ho : ops[i]? = some o := by exact rfl) : wpAnyZ P md ops Q S Z (fuel + 1) listed a w := wpAnyZ_one hr ho h
/-- Two may come up. -/
theorem wpAnyZ_two {i k : Nat} {o o2 : Oper} {fuel : Nat} {listed : Array Bool} {a : Act} {w : World} (hr : Region.ready md ops listed = [i, k]) (ho : ops[i]? = some o) (ho2 : ops[k]? = some o2)
    (h : ∀ K' : Act → World → Prop, Shut (∀ a w, S w → (S w → wpAnyZ P md ops Q S Z fuel (listed.setIfInBounds i true) a w) → K' a w) → if Region.wanted o (yielded ops a.tmps) = true then Oper.wp P o a w K' Q else K' (a.put o.dst undef) w)
    (h2 : ∀ K' : Act → World → Prop, Shut (∀ a w, S w → (S w → wpAnyZ P md ops Q S Z fuel (listed.setIfInBounds k true) a w) → K' a w) → if Region.wanted o2 (yielded ops a.tmps) = true then Oper.wp P o2 a w K' Q else K' (a.put o2.dst undef) w) :
    wpAnyZ P md ops Q S Z (fuel + 1) listed a w := by
  refine ⟨fun h0 => absurd (hr ▸ h0) (by simp), ?_⟩
  rw [hr]
  intro j hj
  rcases List.mem_cons.1 hj with rfl | hj
  · exact wpOp_step ho (fun K' hK => h K' (fun a w hS hW => hK a w ⟨fun _ => hS, hW hS⟩))
  · rw [List.mem_singleton] at hj
    subst hj
    exact wpOp_step ho2 (fun K' hK => h2 K' (fun a w hS hW => hK a w ⟨fun _ => hS, hW hS⟩))
/-- The only one that may come up, and one of the last. -/
theorem wpAnyZ_last {i : Nat} {o : Oper} {fuel : Nat} {listed : Array Bool} {a : Act} {w : World} (hr : Region.ready md ops listed = [i]) (ho : ops[i]? = some o) (hz : Z.contains i = true)
    (h : ∀ K' : Act → World → Prop, Shut (∀ a w, wpAnyZ P md ops Q S Z fuel (listed.setIfInBounds i true) a w → K' a w) → if Region.wanted o (yielded ops a.tmps) = true then Oper.wp P o a w K' Q else K' (a.put o.dst undef) w) :
    wpAnyZ P md ops Q S Z (fuel + 1) listed a w := by
  refine ⟨fun h0 => absurd (hr ▸ h0) (by simp), ?_⟩
  rw [hr]
  intro j hj
  rw [List.mem_singleton] at hj
  subst hj
  exact wpOp_step ho (fun K' hK => h K' (fun a w hW => hK a w ⟨fun hn => absurd (by simpa using hz) hn, hW⟩))
theorem wpAnyZ_done {listed : Array Bool} {a : Act} {w : World} (hr : Region.ready md ops listed = []) (h : Q .normal a w) : ∀ fuel, wpAnyZ P md ops Q S Z fuel listed a w
  | 0 => ⟨hr, h⟩
  | _ + 1 => ⟨fun _ => h, by rw [hr]; simp⟩
end
/-- An append that is carried out. -/
theorem append_go {P : Program} {w : World} {t ty : TypeId} {s x : Operand} {d : Option Tmp} {pos : String} {after : Array Go.Edge} {guard : Option (Nat × Bool)} {a : Act} {K : Act → World → Prop} {Q : Exit → Act → World → Prop} {v xv v' : Value} {w' : World}
    (hv : a.eval s = v) (hx : a.eval x = xv) (h : Appends P w t ty v xv) (h1 : appV P w t ty v xv = v') (h2 : appW P w t ty v xv = w') (hk : K (a.put d v') w') :
    Oper.wp P ⟨d, .call { callee := .builtin .append, args := #[s, x], argTypes := #[t, t] }, ty, pos, after, guard⟩ a w K Q := by
  subst hv hx h1 h2
  rw [append_op h]
  exact hk
/-- The beginning, in the plain walk. -/
theorem region_z {P : Program} {id : Nat} {ops : Array Oper} {Q : Exit → Act → World → Prop} {S : World → Prop} (Z : List Nat) {a : Act} {w : World} (hm : P.follows .mixedOrders = true)
    (hS : S w.drew) (h : S w.drew → wpAnyZ P .any ops Q S Z ops.size (Array.replicate ops.size false) a w.drew) : (Code.region id ops true).wp P Q a w :=
  wp_region_any hm (wpAny_of_Z _ _ _ _ (h hS))
/-- The beginning, in a round of a range over a function. -/
theorem region_round_z {P : Program} {n l id : Nat} {ops : Array Oper} {Q : Exit → Act → World → Prop} {S : World → Prop} (Z : List Nat) {a : Act} {w : World} (hm : P.follows .mixedOrders = true) (hp : (ops.all fun o => noDefer o.op) = true)
    (hS : S w.drew) (h : S w.drew → wpAnyZ P .any ops (fun e a' w' => e = .normal ∧ Q .normal a' w') S Z ops.size (Array.replicate ops.size false) a w.drew) : (Code.region id ops true).wpIn (Fence.wide.inRound l) n P Q a w := by
  have hL : ¬ LetsOut (fun (e : Exit) (a' : Act) (w' : World) => e = .normal ∧ Q .normal a' w') := fun ⟨_, _, h, _⟩ => by cases h
  have h1 : (Code.region id ops true).wpIn (Fence.wide.inRound l) n P (fun (e : Exit) (a' : Act) (w' : World) => e = .normal ∧ Q .normal a' w') a w := wpIn_region_any hm (any_wide hp hL _ _ _ _ (wpAny_of_Z _ _ _ _ (h hS)))
  refine wpIn_mono h1 ?_
  rintro e a' w' ⟨rfl, h2⟩
  exact h2
/-- Rules for frames under short names. -/
theorem zl0 {α : Type} {xs : List α} {i : Nat} (h : i < xs.toArray.size) : xs.toArray[i] = xs[i]'(by simpa using h) := rfl
theorem zl1 {α : Type} {a : α} {as : List α} {h : 0 < (a :: as).length} : (a :: as)[0] = a := rfl
theorem zl2 {α : Type} {a : α} {as : List α} {i : Nat} {h : i + 1 < (a :: as).length} : (a :: as)[i + 1] = as[i]'(Nat.lt_of_succ_lt_succ h) := rfl
theorem zl3 {α : Type} {xs : List α} {i : Nat} {a : α} : xs.toArray.setIfInBounds i a = (xs.set i a).toArray := List.setIfInBounds_toArray _ _ _
theorem zl4 {α : Type} {x : α} {xs : List α} {a : α} : (x :: xs).set 0 a = a :: xs := rfl
theorem zl5 {α : Type} {x : α} {xs : List α} {i : Nat} {a : α} : (x :: xs).set (i + 1) a = x :: xs.set i a := rfl
end Go.Proofs.YtkbbapefgifagaaGreatDoor
/-
Words for a function in whose loop a range over a function stands: the marks that such ranges leave among the deferred calls, and what a change of a block that holds no cells leaves alone.
-/
namespace Go.Proofs.YtkbbapefgifagaaGreatDoor
open Go.RowKit

/-- A change of blocks that hold no cells, and new blocks. -/
def Nc (B : Nat) (W W' : World) : Prop := ∃ row, W.grownBy W' row ∧ ∀ r, row = some r → B ≤ r ∧ ∃ o : Obj, W.heap[r]? = some o ∧ o.isCells = false

theorem Own.nc {B : Nat} {W W' : World} {g : Nat} {t : TypeId} {n : Nat} {f : Nat → Value} (h : Own W g t n f) (hn : Nc B W W') : Own W' g t n f := by
  obtain ⟨row, hg, hr⟩ := hn
  have hl := h.lt
  obtain ⟨cs, hb, hs, hc⟩ := h
  refine ⟨cs, (hg.block g hl (fun e => ?_)).trans hb, hs, hc⟩
  obtain ⟨_, o, ho, hoc⟩ := hr g e.symm
  rw [hb] at ho
  cases ho
  cases hoc
theorem ownsRow_nc {B : Nat} {W W' : World} {base : Nat} {e : TypeId} {size : Nat} {v : Value} {n : Nat} {xs : List Value} (h : W.ownsRow base e size v n xs) (hn : Nc B W W') : W'.ownsRow base e size v n xs := by
  obtain ⟨row, hg, hr⟩ := hn
  refine h.kept hg ?_
  rcases h.2 with ⟨rfl, _⟩ | ⟨g, cap, cur, rfl, _, hh, _⟩
  · exact .inl rfl
  · right
    intro e2
    obtain ⟨_, o, ho, hoc⟩ := hr g (by rw [← e2]; rfl)
    rw [hh] at ho
    cases ho
    cases hoc
theorem below_nc {B B' : Nat} {w W W' : World} (h : Below B' w W) (hw : B' ≤ w.heap.size) (hn : Nc B W W') (hB : B' ≤ B) : Below B' w W' := by
  obtain ⟨row, hg, hr⟩ := hn
  have hs := h.size
  exact h.trans ⟨hg.os, hg.tape, hg.output, hg.size, fun k hk => hg.block k (by omega) (fun e => by have := (hr k e.symm).1; omega)⟩
theorem Nc.putObj (W : World) (D : Nat) (o' : Obj) {o : Obj} {B : Nat} (hB : B ≤ D) (h : W.heap[D]? = some o) (hc : o.isCells = false) : Nc B W (W.putObj D o') :=
  ⟨some D, grownBy_putObj' W D o', fun r e => by cases e; exact ⟨hB, o, h, hc⟩⟩

/-- The marks of ranges over functions: blocks from B on, all there. -/
def Marks (B : Nat) (W : World) (ds : List Deferred) : Prop :=
  ∃ Ds : List Nat, ds = Ds.map (fun D => ({ target := .collected D, args := #[] } : Deferred)) ∧ Ds.Nodup ∧ ∀ D, D ∈ Ds → B ≤ D ∧ D < W.heap.size ∧ W.heap[D]? = some (.deferred (some []))
theorem Marks.nil (B : Nat) (W : World) : Marks B W [] := ⟨[], rfl, List.nodup_nil, fun _ h => by cases h⟩
theorem Marks.keeps {B : Nat} {W W' : World} {ds : List Deferred} (h : Marks B W ds) (hk : KeepsFrom B W W') : Marks B W' ds := by
  obtain ⟨Ds, e, hn, hD⟩ := h
  exact ⟨Ds, e, hn, fun D hm => ⟨(hD D hm).1, Nat.lt_of_lt_of_le (hD D hm).2.1 hk.size, hk.same D _ (hD D hm).1 (hD D hm).2.2 rfl⟩⟩
theorem Marks.cons {B : Nat} {W W' : World} {ds : List Deferred} {D : Nat} (h : Marks B W ds) (hk : ∀ k, k < W.heap.size → W.heap[k]? = some (.deferred (some [])) → W'.heap[k]? = some (.deferred (some []))) (hs : W.heap.size ≤ W'.heap.size) (hD : W.heap.size ≤ D) (hB : B ≤ D) (hd : W'.heap[D]? = some (.deferred (some []))) :
    Marks B W' ({ target := .collected D, args := #[] } :: ds) := by
  obtain ⟨Ds, e, hn, hm⟩ := h
  have hlt : D < W'.heap.size := by
    rcases Nat.lt_or_ge D W'.heap.size with x | x
    · exact x
    · rw [Array.getElem?_eq_none x] at hd; cases hd
  refine ⟨D :: Ds, by rw [e]; rfl, List.nodup_cons.2 ⟨fun x => by have := (hm D x).2.1; omega, hn⟩, fun D' hm' => ?_⟩
  rcases List.mem_cons.1 hm' with rfl | hm'
  · exact ⟨hB, hlt, hd⟩
  · obtain ⟨a, b, c⟩ := hm D' hm'
    exact ⟨a, Nat.lt_of_lt_of_le b hs, hk D' b c⟩

/-- What the taking of marks leaves alone. -/
def Taken (B : Nat) (W W' : World) : Prop := W'.os = W.os ∧ W'.tape = W.tape ∧ W'.output = W.output ∧ W'.heap.size = W.heap.size ∧ (∀ k, k < B → W'.heap[k]? = W.heap[k]?) ∧ ∀ (k : Nat) (o : Obj), W.heap[k]? = some o → o.isCells = true → W'.heap[k]? = some o
theorem Taken.refl (B : Nat) (W : World) : Taken B W W := ⟨rfl, rfl, rfl, rfl, fun _ _ => rfl, fun _ _ h _ => h⟩
theorem Taken.own {B : Nat} {W W' : World} {g : Nat} {t : TypeId} {n : Nat} {f : Nat → Value} (hT : Taken B W W') (h : Own W g t n f) : Own W' g t n f := by
  obtain ⟨cs, hb, hs, hc⟩ := h
  exact ⟨cs, hT.2.2.2.2.2 g _ hb rfl, hs, hc⟩
theorem Taken.below {B : Nat} {w W W' : World} (hT : Taken B W W') (h : Below B w W) : Below B w W' :=
  h.trans ⟨hT.1, hT.2.1, hT.2.2.1, Nat.le_of_eq hT.2.2.2.1.symm, hT.2.2.2.2.1⟩

/-- At the return of such a function the marks are taken; then its results are read. -/
theorem leaves_marks {n : Nat} {P : Program} {fn : Func} {tmps : Array Value} {R : Ending → World → Prop} {B : Nat} : ∀ (ds : List Deferred) (W : World), Marks B W ds →
    (∀ W', Taken B W W' → ∃ v, (results fn tmps).run P W' = .ok v W' ∧ R (.returned v) W') → LeavesInM Fence.wide n P fn tmps R ds .returning W
  | [], W, _, h => h W (Taken.refl B W)
  | d :: ds, W, ⟨Ds, e, hn, hm⟩, h => by
    match Ds, e, hn, hm with
    | D :: Ds, e, hn, hm =>
      have e1 : d = { target := .collected D, args := #[] } := by injection e
      have e2 : ds = Ds.map (fun D => ({ target := .collected D, args := #[] } : Deferred)) := by injection e
      obtain ⟨hB, hlt, hd⟩ := hm D (List.mem_cons_self ..)
      have hn' := List.nodup_cons.1 hn
      refine ⟨by simp, .inl ⟨D, _, by rw [e1], run_takeDeferred hd, ?_⟩⟩
      have hoth : ∀ k, k ≠ D → (W.putObj D (.deferred none)).heap[k]? = W.heap[k]? := fun k hk => World.putObj_heap_other hk
      refine leaves_marks (B := B) ds _ ⟨Ds, e2, hn'.2, fun D' hD' => ?_⟩ (fun W' hT => h W' ?_)
      · obtain ⟨a, b, c⟩ := hm D' (List.mem_cons_of_mem _ hD')
        exact ⟨a, by simpa using b, by rw [hoth D' (fun x => hn'.1 (x ▸ hD'))]; exact c⟩
      · refine ⟨hT.1, hT.2.1, hT.2.2.1, by rw [hT.2.2.2.1]; simp, fun k hk => (hT.2.2.2.2.1 k hk).trans (hoth k (by omega)), fun k o hk ho => hT.2.2.2.2.2 k o ?_ ho⟩
        rw [hoth k (by rintro rfl; rw [hd] at hk; cases hk; cases ho)]
        exact hk
end Go.Proofs.YtkbbapefgifagaaGreatDoor
