/-
Several texts in one: SortMath, SortP.
-/
import Derived.Test.YtkbbapefgifagaaGreatDoorGLApp
import Derived.Test.YtkbbapefgifagaaGreatDoorGBase
import Derived.Laws.EntriesVeiled
import Derived.LoopN
import Derived.Deep.QuietTactic
import Derived.BigQuiet
import Derived.BigRegion
import Derived.Deep.LoopGhost
import Derived.Outline
/-
Plain mathematics of a stable sort by insertion and by symmetric merging: segments of a function as lists, orders by a key and then by the number itself. No program.
-/
namespace Go.Proofs.YtkbbapefgifagaaGreatDoor

/-- The order: the greater key first, then the lesser number. -/
def klt (key : Int → Int) (x y : Int) : Prop := key y < key x ∨ (key x = key y ∧ x < y)
theorem klt_trans {key : Int → Int} {x y z : Int} (h : klt key x y) (k : klt key y z) : klt key x z := by
  unfold klt at *; omega
theorem klt_of_lt {key : Int → Int} {x y : Int} (h : key y < key x) : klt key x y := Or.inl h
theorem klt_of_not {key : Int → Int} {x y : Int} (h : ¬ key x < key y) (hxy : x < y) : klt key x y := by
  unfold klt; omega
def seg (f : Nat → Int) (a b : Nat) : List Int := (List.range (b - a)).map (fun k => f (a + k))
theorem mem_seg {f : Nat → Int} {a b : Nat} {x : Int} : x ∈ seg f a b ↔ ∃ k, a ≤ k ∧ k < b ∧ f k = x := by
  unfold seg
  rw [List.mem_map]
  constructor
  · rintro ⟨k, hk, rfl⟩; rw [List.mem_range] at hk; exact ⟨a + k, by omega, by omega, rfl⟩
  · rintro ⟨k, h1, h2, rfl⟩; exact ⟨k - a, by rw [List.mem_range]; omega, by congr 1; omega⟩
theorem seg_shift {f g : Nat → Int} {a b c d : Nat} (hl : b - a = d - c) (h : ∀ k, k < b - a → f (a + k) = g (c + k)) : seg f a b = seg g c d := by
  unfold seg; rw [← hl]; apply List.map_congr_left; intro k hk; rw [List.mem_range] at hk; exact h k hk
theorem seg_congr {f g : Nat → Int} {a b : Nat} (h : ∀ k, a ≤ k → k < b → f k = g k) : seg f a b = seg g a b :=
  seg_shift rfl (fun k hk => h (a + k) (by omega) (by omega))
theorem seg_append (f : Nat → Int) {a m b : Nat} (h1 : a ≤ m) (h2 : m ≤ b) : seg f a b = seg f a m ++ seg f m b := by
  unfold seg
  rw [show b - a = (m - a) + (b - m) from by omega, List.range_add, List.map_append, List.map_map]
  congr 1
  apply List.map_congr_left
  intro k _
  show f (a + (m - a + k)) = f (m + k)
  congr 1; omega
theorem seg_one (f : Nat → Int) (a : Nat) : seg f a (a + 1) = [f a] := by
  unfold seg; rw [show a + 1 - a = 1 from by omega]; simp [List.range_succ]
theorem seg_snoc (f : Nat → Int) {a b : Nat} (h : a ≤ b) : seg f a (b + 1) = seg f a b ++ [f b] := by
  rw [seg_append f h (by omega : b ≤ b + 1), seg_one]
theorem seg_cons (f : Nat → Int) {a b : Nat} (h : a < b) : seg f a b = f a :: seg f (a + 1) b := by
  rw [seg_append f (by omega : a ≤ a + 1) (by omega : a + 1 ≤ b), seg_one]; rfl
/-- f' is f, sorted between a and b. -/
structure Sorts (key : Int → Int) (a b : Nat) (f f' : Nat → Int) : Prop where
  out : ∀ k, k < a ∨ b ≤ k → f' k = f k
  perm : (seg f' a b).Perm (seg f a b)
  sorted : ∀ p q, a ≤ p → p < q → q < b → klt key (f' p) (f' q)
def Asc (f : Nat → Int) (a b : Nat) : Prop := ∀ p q, a ≤ p → p < q → q < b → f p < f q
theorem Sorts.mem {key : Int → Int} {a b : Nat} {f f' : Nat → Int} (h : Sorts key a b f f') {k : Nat} (h1 : a ≤ k) (h2 : k < b) : ∃ j, a ≤ j ∧ j < b ∧ f' k = f j := by
  have : f' k ∈ seg f a b := h.perm.mem_iff.1 (mem_seg.2 ⟨k, h1, h2, rfl⟩)
  obtain ⟨j, a1, a2, a3⟩ := mem_seg.1 this
  exact ⟨j, a1, a2, a3.symm⟩
theorem Sorts.small {key : Int → Int} {a b : Nat} {f : Nat → Int} (h : b ≤ a + 1) : Sorts key a b f f :=
  ⟨fun _ _ => rfl, .refl _, fun p q _ _ _ => by omega⟩
/-- Whatever holds of all numbers of a segment, sorted or not. -/
theorem Sorts.all {key : Int → Int} {a b n : Nat} {f f' : Nat → Int} (h : Sorts key a b f f') (hb : b ≤ n) {D : Int → Prop} (hD : ∀ k, k < n → D (f k)) (k : Nat) (hk : k < n) : D (f' k) := by
  by_cases hk2 : a ≤ k ∧ k < b
  · obtain ⟨j, _, h2, e⟩ := h.mem hk2.1 hk2.2
    rw [e]; exact hD j (by omega)
  · rw [h.out k (by omega)]; exact hD k hk

/-- Two neighbours exchanged. -/
def exch (f : Nat → Int) (i j : Nat) : Nat → Int := fun k => if k = i then f j else if k = j then f i else f k
theorem exch_perm (f : Nat → Int) {a b j : Nat} (h1 : a ≤ j) (h2 : j + 1 < b) : (seg (exch f (j + 1) j) a b).Perm (seg f a b) := by
  rw [seg_append (exch f (j + 1) j) h1 (by omega : j ≤ b), seg_append f h1 (by omega : j ≤ b), seg_cons (exch f (j + 1) j) (by omega : j < b), seg_cons f (by omega : j < b), seg_cons (exch f (j + 1) j) (by omega : j + 1 < b), seg_cons f (by omega : j + 1 < b)]
  have e1 : seg (exch f (j + 1) j) a j = seg f a j := seg_congr (fun k _ hk => by unfold exch; rw [if_neg (by omega), if_neg (by omega)])
  have e2 : seg (exch f (j + 1) j) (j + 1 + 1) b = seg f (j + 1 + 1) b := seg_congr (fun k hk _ => by unfold exch; rw [if_neg (by omega), if_neg (by omega)])
  have e3 : exch f (j + 1) j j = f (j + 1) := by unfold exch; rw [if_neg (by omega), if_pos rfl]
  have e4 : exch f (j + 1) j (j + 1) = f j := by unfold exch; rw [if_pos rfl]
  rw [e1, e2, e3, e4]
  exact List.Perm.append_left _ (List.Perm.swap _ _ _)
/-- The inner loop of the insertion: the number x of place i has come to place j. -/
structure InsIn (key : Int → Int) (a i j : Nat) (f h : Nat → Int) : Prop where
  out : ∀ k, k < a ∨ i < k → h k = f k
  perm : (seg h a (i + 1)).Perm (seg f a (i + 1))
  rest : ∀ p q, a ≤ p → p < q → q ≤ i → p ≠ j → q ≠ j → klt key (h p) (h q)
  past : ∀ q, j < q → q ≤ i → klt key (h j) (h q)
  less : ∀ p, a ≤ p → p ≤ i → p ≠ j → h p < h j
theorem InsIn.start {key : Int → Int} {a i : Nat} {f f' : Nat → Int} (ha : a ≤ i) (h : Sorts key a i f f') (hl : ∀ p, a ≤ p → p < i → f p < f i) : InsIn key a i i f f' := by
  refine ⟨fun k hk => h.out k (by omega), ?_, fun p q h1 h2 h3 h4 h5 => h.sorted p q h1 h2 (by omega), fun q h1 h2 => by omega, ?_⟩
  · rw [seg_snoc f' ha, seg_snoc f ha, h.out i (by omega)]; exact h.perm.append_right _
  · intro p h1 h2 h3
    obtain ⟨j, b1, b2, e⟩ := h.mem h1 (by omega : p < i)
    rw [e, h.out i (by omega)]; exact hl j b1 b2
theorem InsIn.step {key : Int → Int} {a i j : Nat} {f h : Nat → Int} (H : InsIn key a i (j + 1) f h) (ha : a ≤ j) (hi : j + 1 ≤ i) (hk : key (h j) < key (h (j + 1))) : InsIn key a i j f (exch h (j + 1) j) := by
  have ev : ∀ k, k ≠ j → k ≠ j + 1 → exch h (j + 1) j k = h k := fun k h1 h2 => by unfold exch; rw [if_neg h2, if_neg h1]
  have e3 : exch h (j + 1) j j = h (j + 1) := by unfold exch; rw [if_neg (by omega), if_pos rfl]
  have e4 : exch h (j + 1) j (j + 1) = h j := by unfold exch; rw [if_pos rfl]
  refine ⟨fun k hk => by rw [ev k (by omega) (by omega)]; exact H.out k hk, (exch_perm h ha (by omega)).trans H.perm, ?_, ?_, ?_⟩
  · intro p q h1 h2 h3 h4 h5
    by_cases hp : p = j + 1
    · subst hp; rw [e4, ev q (by omega) (by omega)]; exact H.rest j q (by omega) (by omega) h3 (by omega) (by omega)
    · by_cases hq : q = j + 1
      · subst hq; rw [e4, ev p h4 hp]; exact H.rest p j h1 (by omega) (by omega) hp (by omega)
      · rw [ev p h4 hp, ev q h5 hq]; exact H.rest p q h1 h2 h3 hp hq
  · intro q h1 h2
    rw [e3]
    by_cases hq : q = j + 1
    · subst hq; rw [e4]; exact klt_of_lt hk
    · rw [ev q (by omega) hq]; exact H.past q (by omega) h2
  · intro p h1 h2 h3
    rw [e3]
    by_cases hp : p = j + 1
    · subst hp; rw [e4]; exact H.less j ha (by omega) (by omega)
    · rw [ev p h3 hp]; exact H.less p h1 h2 hp
theorem InsIn.stop {key : Int → Int} {a i j : Nat} {f h : Nat → Int} (H : InsIn key a i j f h) (ha : a ≤ j) (hi : j ≤ i) (hs : j = a ∨ ¬ key (h (j - 1)) < key (h j)) : Sorts key a (i + 1) f h := by
  refine ⟨fun k hk => H.out k (by omega), H.perm, ?_⟩
  intro p q h1 h2 h3
  by_cases hp : p = j
  · subst hp; exact H.past q h2 (by omega)
  · by_cases hq : q = j
    · subst hq
      rcases hs with hs | hs
      · omega
      · have hlast : klt key (h (q - 1)) (h q) := klt_of_not hs (H.less (q - 1) (by omega) (by omega) (by omega))
        by_cases hpq : p = q - 1
        · subst hpq; exact hlast
        · exact klt_trans (H.rest p (q - 1) h1 (by omega) (by omega) hp (by omega)) hlast
    · exact H.rest p q h1 h2 (by omega) hp hq

theorem InsIn.all {key : Int → Int} {a i j n : Nat} {f h : Nat → Int} (H : InsIn key a i j f h) (hb : i < n) {D : Int → Prop} (hD : ∀ k, k < n → D (f k)) (k : Nat) (hk : k < n) : D (h k) := by
  by_cases hk2 : a ≤ k ∧ k < i + 1
  · have : h k ∈ seg f a (i + 1) := H.perm.mem_iff.1 (mem_seg.2 ⟨k, hk2.1, hk2.2, rfl⟩)
    obtain ⟨l, _, a2, a3⟩ := mem_seg.1 this
    rw [← a3]; exact hD l (by omega)
  · rw [H.out k (by omega)]; exact hD k hk

/-- What a merge asks: two sorted runs, the numbers of the first less than those of the second. -/
structure Runs (key : Int → Int) (a m b : Nat) (f : Nat → Int) : Prop where
  left : ∀ p q, a ≤ p → p < q → q < m → klt key (f p) (f q)
  right : ∀ p q, m ≤ p → p < q → q < b → klt key (f p) (f q)
  cross : ∀ p q, a ≤ p → p < m → m ≤ q → q < b → f p < f q

end Go.Proofs.YtkbbapefgifagaaGreatDoor
/-
slices.SortStableFunc at []int for fewer than twenty numbers that come in increasing order; the comparison may make memory.
-/

namespace Go.Proofs.YtkbbapefgifagaaGreatDoor
open Go.RowKit
set_option linter.unusedVariables false
set_option linter.unusedSimpArgs false
/-- A row of at least n numbers. -/
def OwnP (w : World) (g n : Nat) (f : Nat → Int) : Prop := ∃ cs : Array Value, w.heap[g]? = some (.cells cs 3 (0, 0)) ∧ n ≤ cs.size ∧ ∀ i, i < n → cs[i]? = some (.int .i64 (f i))
section
variable {w w' : World} {g n : Nat} {f : Nat → Int}
theorem OwnP.lt (h : OwnP w g n f) : g < w.heap.size := by
  obtain ⟨cs, hb, _⟩ := h
  rcases Nat.lt_or_ge g w.heap.size with hlt | hge
  · exact hlt
  · rw [Array.getElem?_eq_none hge] at hb; cases hb
theorem OwnP.cell (h : OwnP w g n f) {i : Nat} (hi : i < n) : w.cell? ⟨g, i, none⟩ = some (.int .i64 (f i)) := by
  obtain ⟨cs, hb, hs, hc⟩ := h
  simp [World.cell?, hb, hc i hi]
theorem OwnP.frozen (h : OwnP w g n f) (i : Nat) : w.frozen? ⟨g, i, none⟩ = false := by
  obtain ⟨cs, hb, _⟩ := h
  simp [World.frozen?, hb]
theorem OwnP.congr (h : OwnP w g n f) {f' : Nat → Int} (e : ∀ i, i < n → f i = f' i) : OwnP w g n f' := by
  obtain ⟨cs, hb, hs, hc⟩ := h
  exact ⟨cs, hb, hs, fun i hi => by rw [hc i hi, e i hi]⟩
theorem OwnP.below (h : OwnP w g n f) (hb : Below w.heap.size w w') : OwnP w' g n f := by
  have hl := h.lt
  obtain ⟨cs, hh, hs, hc⟩ := h
  exact ⟨cs, (hb.block g hl).trans hh, hs, hc⟩
theorem OwnP.drew (h : OwnP w g n f) : OwnP w.drew g n f := h
theorem OwnP.drewN (h : OwnP w g n f) (k : Nat) : OwnP (w.drewN k) g n f := h
theorem OwnP.set (h : OwnP w g n f) (i : Nat) (x : Int) : OwnP (w.setCell ⟨g, i, none⟩ (.int .i64 x)) g n (fun j => if j = i then x else f j) := by
  obtain ⟨cs, hb, hs, hc⟩ := h
  refine ⟨cs.setIfInBounds i (.int .i64 x), ?_, by simpa using hs, fun j hj => ?_⟩
  · simp [World.setCell, Array.getElem?_modify, hb]
  · rw [Array.getElem?_setIfInBounds]
    by_cases e : i = j
    · subst e; simp; omega
    · have e' : ¬ j = i := fun x => e x.symm
      simp [e, e', hc j hj]
end
/-- The answer of cmp.Compare. -/
def cmpV (x y : Int) : Int := if x < y then -1 else if y < x then 1 else 0
theorem cmpV_neg {x y : Int} (h : x < y) : cmpV x y < 0 := by unfold cmpV; rw [if_pos h]; decide
theorem cmpV_not {x y : Int} (h : ¬ x < y) : ¬ cmpV x y < 0 := by unfold cmpV; rw [if_neg h]; split <;> decide
/-- A world of the sort. -/
structure SortP (w0 : World) (g n : Nat) (f : Nat → Int) (w : World) : Prop where
  own : OwnP w g n f
  mod : Mod (fun k => k = g) w0 w
theorem SortP.drewN {w0 w : World} {g n : Nat} {f : Nat → Int} (h : SortP w0 g n f w) (k : Nat) : SortP w0 g n f (w.drewN k) := ⟨h.own.drewN k, h.mod.drewN k⟩
theorem SortP.below {w0 w w' : World} {g n : Nat} {f : Nat → Int} (h : SortP w0 g n f w) (hb : Below w.heap.size w w') : SortP w0 g n f w' := ⟨h.own.below hb, h.mod.trans (Mod.of_below hb |>.mono (fun k h1 h2 => by omega))⟩
theorem SortP.exch {w0 w : World} {g n : Nat} {f : Nat → Int} (h : SortP w0 g n f w) (i j : Nat) (x y : Int) (hx : x = f j) (hy : y = f i) (hij : i ≠ j) :
    SortP w0 g n (exch f i j) ((w.setCell ⟨g, i, none⟩ (.int .i64 x)).setCell ⟨g, j, none⟩ (.int .i64 y)).drew := by
  subst hx hy
  refine ⟨((h.own.set i _).set j _).drew.congr (fun k _ => ?_), ((h.mod.setCell (Or.inl rfl) _).setCell (Or.inl rfl) _).drew⟩
  unfold Go.Proofs.YtkbbapefgifagaaGreatDoor.exch
  by_cases h1 : k = j
  · subst h1; rw [if_pos rfl, if_neg (fun e => hij e.symm), if_pos rfl]
  · rw [if_neg h1, if_neg h1]
def SortPostP (key : Int → Int) (a b : Nat) (f : Nat → Int) (w0 : World) (g n : Nat) (e : Ending) (w' : World) : Prop := e = .returned (.tuple #[]) ∧ ∃ f', Sorts key a b f f' ∧ SortP w0 g n f' w'
end Go.Proofs.YtkbbapefgifagaaGreatDoor
