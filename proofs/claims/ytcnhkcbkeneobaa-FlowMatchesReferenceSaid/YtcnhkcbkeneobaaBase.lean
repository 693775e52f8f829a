/-
Words for memory that all the walks of this claim use: a slice that reads as a list, a block that the call owns, what a call may have changed.
-/
import Derived.WalkKit
import Derived.WalkSpells
import Derived.WalkLawsBesides
import Derived.Lib.Hide
import Derived.Deep.OwnRows
import Derived.RegionTactic
namespace Go.Proofs.Ytcnhkcbkeneobaa
open Go.RowKit

/-- The slice that begins at A reads, cell by cell, as the list xs (elements of sz cells). -/
def Rd {α : Type} (sz : Nat) (enc : α → List Value) (w : World) (A : Option Addr) (xs : List α) : Prop :=
  0 < xs.length → ∃ b off, A = some ⟨b, off, none⟩ ∧ b < w.heap.size ∧ ∀ k x, xs[k]? = some x → ∀ j v, (enc x)[j]? = some v → w.cell? ⟨b, off + k * sz + j, none⟩ = some v

def encI (x : Int) : List Value := [.int .i64 x]
def encB (x : Bool) : List Value := [.bool x]

/-- Only blocks in M, and new ones, may have changed. -/
structure Mod (M : Nat → Prop) (w w' : World) : Prop where
  os : w'.os = w.os
  tape : w'.tape = w.tape
  output : w'.output = w.output
  size : w.heap.size ≤ w'.heap.size
  block : ∀ k, k < w.heap.size → ¬ M k → w'.heap[k]? = w.heap[k]?

theorem Mod.refl (M : Nat → Prop) (w : World) : Mod M w w := ⟨rfl, rfl, rfl, Nat.le_refl _, fun _ _ _ => rfl⟩
theorem Mod.trans {M : Nat → Prop} {a b c : World} (h : Mod M a b) (k : Mod M b c) : Mod M a c :=
  ⟨k.os.trans h.os, k.tape.trans h.tape, k.output.trans h.output, Nat.le_trans h.size k.size, fun i hi hn => (k.block i (Nat.lt_of_lt_of_le hi h.size) hn).trans (h.block i hi hn)⟩
theorem Mod.mono {M M' : Nat → Prop} {a b : World} (h : Mod M a b) (hm : ∀ k, k < a.heap.size → M k → M' k) : Mod M' a b :=
  ⟨h.os, h.tape, h.output, h.size, fun i hi hn => h.block i hi (fun x => hn (hm i hi x))⟩
theorem Mod.of_below {B : Nat} {a b : World} (h : Below B a b) : Mod (fun k => B ≤ k) a b :=
  ⟨h.os, h.tape, h.output, h.size, fun i _ hn => h.block i (by omega)⟩
theorem Mod.below {M : Nat → Prop} {a b : World} (h : Mod M a b) {B : Nat} (hB : B ≤ a.heap.size) (hm : ∀ k, k < a.heap.size → M k → B ≤ k) : Below B a b :=
  ⟨h.os, h.tape, h.output, h.size, fun i hi => h.block i (by omega) (fun x => by have := hm i (by omega) x; omega)⟩
theorem Mod.drew {M : Nat → Prop} {a w : World} (h : Mod M a w) : Mod M a w.drew := ⟨h.os, h.tape, h.output, h.size, h.block⟩
theorem Mod.drewN {M : Nat → Prop} {a w : World} (h : Mod M a w) (n : Nat) : Mod M a (w.drewN n) := ⟨h.os, h.tape, h.output, h.size, h.block⟩
theorem Mod.alloc {M : Nat → Prop} {a w : World} (h : Mod M a w) (o : Obj) : Mod M a (w.alloc o) :=
  h.trans ⟨rfl, rfl, rfl, by simp, fun k hk _ => Below.heap_alloc _ _ _ hk⟩
theorem Mod.setCell {M : Nat → Prop} {a w : World} (h : Mod M a w) {p : Addr} (hp : M p.block ∨ a.heap.size ≤ p.block) (u : Value) : Mod M a (w.setCell p u) :=
  ⟨h.os, h.tape, h.output, by simpa [World.setCell] using h.size, fun i hi hn => (Below.heap_setCell w p u i (by
    rintro rfl
    rcases hp with hp | hp
    · exact hn hp
    · omega)).trans (h.block i hi hn)⟩
theorem Mod.grown {M : Nat → Prop} {a w w' : World} {row : Option Nat} (h : Mod M a w) (hg : w.grownBy w' row) (hr : ∀ k, row = some k → M k ∨ a.heap.size ≤ k) : Mod M a w' :=
  ⟨hg.os.trans h.os, hg.tape.trans h.tape, hg.output.trans h.output, Nat.le_trans h.size hg.size, fun i hi hn => (hg.block i (Nat.lt_of_lt_of_le hi h.size) (fun e => by
    rcases hr i e.symm with x | x
    · exact hn x
    · omega)).trans (h.block i hi hn)⟩
theorem Mod.cell {M : Nat → Prop} {w w' : World} (h : Mod M w w') {p : Addr} (hp : p.block < w.heap.size) (hn : ¬ M p.block) : w'.cell? p = w.cell? p := World.cell?_of_block (w := w) (h.block p.block hp hn)
theorem Mod.frozen {M : Nat → Prop} {w w' : World} (h : Mod M w w') {p : Addr} (hp : p.block < w.heap.size) (hn : ¬ M p.block) : w'.frozen? p = w.frozen? p := World.frozen?_of_block (w := w) (h.block p.block hp hn)

theorem below_drewN {B : Nat} {a w : World} (h : Below B a w) (n : Nat) : Below B a (w.drewN n) := ⟨h.os, h.tape, h.output, h.size, h.block⟩
theorem below_of_drew {a b : World} (h : Below a.drew.heap.size a.drew b) : Below a.heap.size a b := ⟨h.os, h.tape, h.output, h.size, h.block⟩
theorem below_of_drewN {a b : World} {n : Nat} (h : Below (a.drewN n).heap.size (a.drewN n) b) : Below a.heap.size a b := ⟨h.os, h.tape, h.output, h.size, h.block⟩
/-- A call that changed nothing old, behind another. -/
theorem below_then {a b c : World} (h : Below a.heap.size a b) (k : Below b.heap.size b c) : Below a.heap.size a c := h.trans (k.mono h.size)

section
variable {α : Type} {sz : Nat} {enc : α → List Value} {w w' : World} {A : Option Addr} {xs : List α}
theorem Rd.nil : Rd sz enc w A [] := fun h => absurd h (by simp)
theorem Rd.mod {M : Nat → Prop} (h : Rd sz enc w A xs) (hm : Mod M w w') (hn : ∀ a, A = some a → 0 < xs.length → ¬ M a.block) : Rd sz enc w' A xs := by
  intro h0
  obtain ⟨b, off, hA, hlt, hc⟩ := h h0
  have hnb : ¬ M b := hn ⟨b, off, none⟩ hA h0
  exact ⟨b, off, hA, Nat.lt_of_lt_of_le hlt hm.size, fun k x hx j v hv => (hm.cell (p := ⟨b, off + k * sz + j, none⟩) hlt hnb).trans (hc k x hx j v hv)⟩
theorem Rd.keep (h : Rd sz enc w A xs) (hb : Below w.heap.size w w') : Rd sz enc w' A xs := by
  intro hn
  obtain ⟨b, off, hA, hlt, hc⟩ := h hn
  exact ⟨b, off, hA, Nat.lt_of_lt_of_le hlt hb.size, fun k x hx j v hv => (hb.cell (p := ⟨b, _, none⟩) hlt).trans (hc k x hx j v hv)⟩
/-- The same over a world that has grown by a block first. -/
theorem Rd.keep1 (h : Rd sz enc w A xs) {o : Obj} (hb : Below (w.heap.size + 1) (w.alloc o) w') : Rd sz enc w' A xs :=
  h.keep (((Below.refl _ w).alloc (Nat.le_refl _) o).trans (hb.mono (by omega)))
theorem Rd.drewN (h : Rd sz enc w A xs) (n : Nat) : Rd sz enc (w.drewN n) A xs := h
theorem Rd.at_ (h : Rd sz enc w A xs) {k : Nat} (hk : k < xs.length) :
    ∃ b off x, A = some ⟨b, off, none⟩ ∧ b < w.heap.size ∧ xs[k]? = some x ∧ ∀ j v, (enc x)[j]? = some v → w.cell? ⟨b, off + k * sz + j, none⟩ = some v := by
  obtain ⟨b, off, hA, hlt, hc⟩ := h (by omega)
  have hx : xs[k]? = some xs[k] := List.getElem?_eq_getElem hk
  exact ⟨b, off, xs[k], hA, hlt, hx, hc k _ hx⟩
end
theorem Rd.int {w : World} {A : Option Addr} {xs : List Int} (h : Rd 1 encI w A xs) {k : Nat} (hk : k < xs.length) :
    ∃ b off, A = some ⟨b, off, none⟩ ∧ b < w.heap.size ∧ w.cell? ⟨b, off + k, none⟩ = some (.int .i64 (xs[k]?.getD 0)) := by
  obtain ⟨b, off, x, hA, hlt, hx, hc⟩ := h.at_ hk
  exact ⟨b, off, hA, hlt, by have := hc 0 _ rfl; simpa [hx] using this⟩
theorem Rd.bool {w : World} {A : Option Addr} {xs : List Bool} (h : Rd 1 encB w A xs) {k : Nat} (hk : k < xs.length) :
    ∃ b off, A = some ⟨b, off, none⟩ ∧ b < w.heap.size ∧ w.cell? ⟨b, off + k, none⟩ = some (.bool (xs[k]?.getD false)) := by
  obtain ⟨b, off, x, hA, hlt, hx, hc⟩ := h.at_ hk
  exact ⟨b, off, hA, hlt, by have := hc 0 _ rfl; simpa [hx] using this⟩

/-- Block g is a row of n cells of its own, none frozen: cell i holds f i. -/
def Own (w : World) (g : Nat) (t : TypeId) (n : Nat) (f : Nat → Value) : Prop :=
  ∃ cs : Array Value, w.heap[g]? = some (.cells cs t (0, 0)) ∧ cs.size = n ∧ ∀ i, i < n → cs[i]? = some (f i)
section
variable {w w' : World} {g : Nat} {t : TypeId} {n : Nat} {f : Nat → Value}
theorem Own.lt (h : Own w g t n f) : g < w.heap.size := by
  obtain ⟨cs, hb, _⟩ := h
  rcases Nat.lt_or_ge g w.heap.size with hlt | hge
  · exact hlt
  · rw [Array.getElem?_eq_none hge] at hb; cases hb
theorem Own.cell (h : Own w g t n f) {i : Nat} (hi : i < n) : w.cell? ⟨g, i, none⟩ = some (f i) := by
  obtain ⟨cs, hb, hs, hc⟩ := h
  simp [World.cell?, hb, hc i hi]
theorem Own.frozen (h : Own w g t n f) (i : Nat) : w.frozen? ⟨g, i, none⟩ = false := by
  obtain ⟨cs, hb, _⟩ := h
  simp [World.frozen?, hb]
theorem Own.congr (h : Own w g t n f) {f' : Nat → Value} (e : ∀ i, i < n → f i = f' i) : Own w g t n f' := by
  obtain ⟨cs, hb, hs, hc⟩ := h
  exact ⟨cs, hb, hs, fun i hi => by rw [hc i hi, e i hi]⟩
theorem Own.new (w : World) (t : TypeId) (cs : Array Value) (d : Value) : Own (w.alloc (.cells cs t)) w.heap.size t cs.size (fun i => cs[i]?.getD d) := by
  refine ⟨cs, ?_, rfl, fun i hi => by simp [Array.getElem?_eq_getElem hi]⟩
  show (w.heap.push _)[w.heap.size]? = _
  simp
theorem Own.mod {M : Nat → Prop} (h : Own w g t n f) (hm : Mod M w w') (hn : ¬ M g) : Own w' g t n f := by
  have hl := h.lt
  obtain ⟨cs, hb, hs, hc⟩ := h
  exact ⟨cs, (hm.block g hl hn).trans hb, hs, hc⟩
theorem Own.keep {B : Nat} (h : Own w g t n f) (hb : Below B w w') (hg : g < B) : Own w' g t n f := by
  obtain ⟨cs, hh, hs, hc⟩ := h
  exact ⟨cs, (hb.block g hg).trans hh, hs, hc⟩
theorem Own.drew (h : Own w g t n f) : Own w.drew g t n f := h
theorem Own.drewN (h : Own w g t n f) (k : Nat) : Own (w.drewN k) g t n f := h
theorem Own.alloc (h : Own w g t n f) (o : Obj) : Own (w.alloc o) g t n f := by
  have hl := h.lt
  obtain ⟨cs, hb, hs, hc⟩ := h
  exact ⟨cs, (Below.heap_alloc w o g hl).trans hb, hs, hc⟩
theorem Own.other (h : Own w g t n f) {p : Addr} (hp : g ≠ p.block) (u : Value) : Own (w.setCell p u) g t n f := by
  obtain ⟨cs, hb, hs, hc⟩ := h
  exact ⟨cs, (Below.heap_setCell w p u g hp).trans hb, hs, hc⟩
theorem Own.set (h : Own w g t n f) (i : Nat) (u : Value) : Own (w.setCell ⟨g, i, none⟩ u) g t n (fun j => if j = i then u else f j) := by
  obtain ⟨cs, hb, hs, hc⟩ := h
  refine ⟨cs.setIfInBounds i u, ?_, by simpa using hs, fun j hj => ?_⟩
  · simp [World.setCell, Array.getElem?_modify, hb]
  · rw [Array.getElem?_setIfInBounds]
    by_cases e : i = j
    · subst e; simp [hs, hj]
    · have e' : ¬ j = i := fun x => e x.symm
      simp [e, e', hc j hj]
end
/-- A whole own row, read as a list. -/
theorem Own.rd {α : Type} {sz : Nat} {enc : α → List Value} {w : World} {g : Nat} {t : TypeId} {n : Nat} {f : Nat → Value} (h : Own w g t n f) {xs : List α} (hn : xs.length * sz ≤ n) (hsz : ∀ x, (enc x).length = sz)
    (hf : ∀ k x, xs[k]? = some x → ∀ j v, (enc x)[j]? = some v → f (k * sz + j) = v) : Rd sz enc w (some ⟨g, 0, none⟩) xs := by
  intro _
  refine ⟨g, 0, rfl, h.lt, fun k x hx j v hv => ?_⟩
  have hk : k < xs.length := (List.getElem?_eq_some_iff.1 hx).1
  have hj : j < sz := by rw [← hsz x]; exact (List.getElem?_eq_some_iff.1 hv).1
  have hm : k * sz + sz ≤ xs.length * sz := by rw [← Nat.succ_mul]; exact Nat.mul_le_mul_right _ hk
  rw [Nat.zero_add, h.cell (by omega), hf k x hx j v hv]
theorem take_snoc {α : Type} {xs : List α} {k : Nat} {x : α} (h : xs[k]? = some x) : xs.take (k + 1) = xs.take k ++ [x] := by
  obtain ⟨hk, e⟩ := List.getElem?_eq_some_iff.1 h
  rw [List.take_succ_eq_append_getElem hk, e]
theorem ret_int {k : IntKind} {a b : Int} (h : a = b) : Ending.returned (.int k a) = .returned (.int k b) := by rw [h]
theorem ret_bool {a b : Bool} (h : a = b) : Ending.returned (.bool a) = .returned (.bool b) := by rw [h]
theorem val_int {k : IntKind} {a b : Int} (h : a = b) : Value.int k a = .int k b := by rw [h]
theorem natcast_succ (k : Nat) : Value.int .i64 ((k : Int) + 1) = .int .i64 ((k + 1 : Nat) : Int) := by simp

/-- Where the walk stands: of the world keep only what R says. -/
theorem wp_world {P : Program} {c : Code} {Q : Exit → Act → World → Prop} {a : Act} {w : World} (R : World → Prop) (hR : R w) (h : ∀ w', R w' → Code.wp P c Q a w') : Code.wp P c Q a w := h w hR

/-- make([]T, n) for a number n that is not negative. -/
theorem mk_row {P : Program} (t e : TypeId) (z : Value) (sz bytes : Nat) (ht : P.underlying t = some (.slice e)) (hinfo : (P.info? e).map (fun i => (i.zero, i.size, i.bytes)) = some (some z, sz, bytes))
    (n : Int) (h0 : 0 ≤ n) (hb : (bytes : Int) * n ≤ 281474976710656) (h63 : n ≤ 9223372036854775807) (W : World) :
    (Instr.makeSlice t (.int .i64 n) (.int .i64 n)).run P W = .ok (.slice (some ⟨W.heap.size, 0, none⟩) n.toNat n.toNat) (W.alloc (.cells (madeCells z.cells (n.toNat * sz)) e)) := by
  obtain ⟨i, hi, hzz⟩ := Option.map_eq_some_iff.1 hinfo
  simp only [Prod.mk.injEq] at hzz
  obtain ⟨hz, hs, hbb⟩ := hzz
  have := run_make W t e i z ht hi hz .i64 .i64 n n h0 (Int.le_refl _) (by rw [hbb]; exact hb) h63
  rw [hs] at this
  exact this
theorem made_at (z : Array Value) (n i : Nat) (hi : i < n) : (madeCells z n)[i]? = some (z[i % z.size]!) := by
  unfold madeCells
  simp [hi]
/-- The block of a new row of zeros. -/
theorem Own.made (w : World) (t : TypeId) (z : Array Value) (n : Nat) : Own (w.alloc (.cells (madeCells z n) t)) w.heap.size t n (fun i => z[i % z.size]!) := by
  refine ⟨madeCells z n, ?_, size_madeCells z n, fun i hi => made_at z n i hi⟩
  show (w.heap.push _)[w.heap.size]? = _
  simp
theorem Own.made1 (w : World) (t : TypeId) (z : Value) (n : Nat) : Own (w.alloc (.cells (madeCells #[z] (n * 1)) t)) w.heap.size t n (fun _ => z) := by
  rw [Nat.mul_one]
  exact (Own.made w t #[z] n).congr (fun i _ => by simp [Nat.mod_one])
end Go.Proofs.Ytcnhkcbkeneobaa
