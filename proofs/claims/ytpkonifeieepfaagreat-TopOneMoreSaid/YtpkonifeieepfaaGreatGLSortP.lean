/-
Several texts in one: SortMath, SortP.
-/
import Derived.Test.YtpkonifeieepfaaGreatGLApp
import Derived.Test.YtpkonifeieepfaaGreatGBase
import Derived.Laws.EntriesVeiled
import Derived.LoopN
import Derived.Deep.QuietTactic
import Derived.BigQuiet
import Derived.BigRegion
import Derived.Deep.LoopGhost
import Derived.Outline
/-
Plain mathematics of a stable sort by insertion and by symmetric merging: segments of a function as lists, orders by a key and then by the number itself. No program.
-/
namespace Go.Proofs.YtpkonifeieepfaaGreat

/-- The order: the greater key first, then the lesser number. -/
def klt (key : Int → Int) (x y : Int) : Prop := key y < key x ∨ (key x = key y ∧ x < y)
theorem klt_trans {key : Int → Int} {x y z : Int} (h : klt key x y) (k : klt key y z) : klt key x z := by
  unfold klt at *; omega
theorem klt_of_lt {key : Int → Int} {x y : Int} (h : key y < key x) : klt key x y := Or.inl h
theorem klt_of_not {key : Int → Int} {x y : Int} (h : ¬ key x < key y) (hxy : x < y) : klt key x y := by
  unfold klt; omega
def seg (f : Nat → Int) (a b : Nat) : List Int := (List.range (b - a)).map (fun k => f (a + k))
theorem mem_seg {f : Nat → Int} {a b : Nat} {x : Int} : x ∈ seg f a b ↔ ∃ k, a ≤ k ∧ k < b ∧ f k = x := by
  unfold seg
  rw [List.mem_map]
  constructor
  · rintro ⟨k, hk, rfl⟩; rw [List.mem_range] at hk; exact ⟨a + k, by omega, by omega, rfl⟩
  · rintro ⟨k, h1, h2, rfl⟩; exact ⟨k - a, by rw [List.mem_range]; omega, by congr 1; omega⟩
theorem seg_shift {f g : Nat → Int} {a b c d : Nat} (hl : b - a = d - c) (h : ∀ k, k < b - a → f (a + k) = g (c + k)) : seg f a b = seg g c d := by
  unfold seg; rw [← hl]; apply List.map_congr_left; intro k hk; rw [List.mem_range] at hk; exact h k hk
theorem seg_congr {f g : Nat → Int} {a b : Nat} (h : ∀ k, a ≤ k → k < b → f k = g k) : seg f a b = seg g a b :=
  seg_shift rfl (fun k hk => h (a + k) (by omega) (by omega))
theorem seg_append (f : Nat → Int) {a m b : Nat} (h1 : a ≤ m) (h2 : m ≤ b) : seg f a b = seg f a m ++ seg f m b := by
  unfold seg
  rw [show b - a = (m - a) + (b - m) from by omega, List.range_add, List.map_append, List.map_map]
  congr 1
  apply List.map_congr_left
  intro k _
  show f (a + (m - a + k)) = f (m + k)
  congr 1; omega
theorem seg_one (f : Nat → Int) (a : Nat) : seg f a (a + 1) = [f a] := by
  unfold seg; rw [show a + 1 - a = 1 from by omega]; simp [List.range_succ]
theorem seg_snoc (f : Nat → Int) {a b : Nat} (h : a ≤ b) : seg f a (b + 1) = seg f a b ++ [f b] := by
  rw [seg_append f h (by omega : b ≤ b + 1), seg_one]
theorem seg_cons (f : Nat → Int) {a b : Nat} (h : a < b) : seg f a b = f a :: seg f (a + 1) b := by
  rw [seg_append f (by omega : a ≤ a + 1) (by omega : a + 1 ≤ b), seg_one]; rfl
/-- f' is f, sorted between a and b. -/
structure Sorts (key : Int → Int) (a b : Nat) (f f' : Nat → Int) : Prop where
  out : ∀ k, k < a ∨ b ≤ k → f' k = f k
  perm : (seg f' a b).Perm (seg f a b)
  sorted : ∀ p q, a ≤ p → p < q → q < b → klt key (f' p) (f' q)
def Asc (f : Nat → Int) (a b : Nat) : Prop := ∀ p q, a ≤ p → p < q → q < b → f p < f q
theorem Sorts.mem {key : Int → Int} {a b : Nat} {f f' : Nat → Int} (h : Sorts key a b f f') {k : Nat} (h1 : a ≤ k) (h2 : k < b) : ∃ j, a ≤ j ∧ j < b ∧ f' k = f j := by
  have : f' k ∈ seg f a b := h.perm.mem_iff.1 (mem_seg.2 ⟨k, h1, h2, rfl⟩)
  obtain ⟨j, a1, a2, a3⟩ := mem_seg.1 this
  exact ⟨j, a1, a2, a3.symm⟩
theorem Sorts.small {key : Int → Int} {a b : Nat} {f : Nat → Int} (h : b ≤ a + 1) : Sorts key a b f f :=
  ⟨fun _ _ => rfl, .refl _, fun p q _ _ _ => by omega⟩
/-- Whatever holds of all numbers of a segment, sorted or not. -/
theorem Sorts.all {key : Int → Int} {a b n : Nat} {f f' : Nat → Int} (h : Sorts key a b f f') (hb : b ≤ n) {D : Int → Prop} (hD : ∀ k, k < n → D (f k)) (k : Nat) (hk : k < n) : D (f' k) := by
  by_cases hk2 : a ≤ k ∧ k < b
  · obtain ⟨j, _, h2, e⟩ := h.mem hk2.1 hk2.2
    rw [e]; exact hD j (by omega)
  · rw [h.out k (by omega)]; exact hD k hk

/-- Two neighbours exchanged. -/
def exch (f : Nat → Int) (i j : Nat) : Nat → Int := fun k => if k = i then f j else if k = j then f i else f k
theorem exch_perm (f : Nat → Int) {a b j : Nat} (h1 : a ≤ j) (h2 : j + 1 < b) : (seg (exch f (j + 1) j) a b).Perm (seg f a b) := by
  rw [seg_append (exch f (j + 1) j) h1 (by omega : j ≤ b), seg_append f h1 (by omega : j ≤ b), seg_cons (exch f (j + 1) j) (by omega : j < b), seg_cons f (by omega : j < b), seg_cons (exch f (j + 1) j) (by omega : j + 1 < b), seg_cons f (by omega : j + 1 < b)]
  have e1 : seg (exch f (j + 1) j) a j = seg f a j := seg_congr (fun k _ hk => by unfold exch; rw [if_neg (by omega), if_neg (by omega)])
  have e2 : seg (exch f (j + 1) j) (j + 1 + 1) b = seg f (j + 1 + 1) b := seg_congr (fun k hk _ => by unfold exch; rw [if_neg (by omega), if_neg (by omega)])
  have e3 : exch f (j + 1) j j = f (j + 1) := by unfold exch; rw [if_neg (by omega), if_pos rfl]
  have e4 : exch f (j + 1) j (j + 1) = f j := by unfold exch; rw [if_pos rfl]
  rw [e1, e2, e3, e4]
  exact List.Perm.append_left _ (List.Perm.swap _ _ _)
/-- The inner loop of the insertion: the number x of place i has come to place j. -/
structure InsIn (key : Int → Int) (a i j : Nat) (f h : Nat → Int) : Prop where
  out : ∀ k, k < a ∨ i < k → h k = f k
  perm : (seg h a (i + 1)).Perm (seg f a (i + 1))
  rest : ∀ p q, a ≤ p → p < q → q ≤ i → p ≠ j → q ≠ j → klt key (h p) (h q)
  past : ∀ q, j < q → q ≤ i → klt key (h j) (h q)
  less : ∀ p, a ≤ p → p ≤ i → p ≠ j → h p < h j
theorem InsIn.start {key : Int → Int} {a i : Nat} {f f' : Nat → Int} (ha : a ≤ i) (h : Sorts key a i f f') (hl : ∀ p, a ≤ p → p < i → f p < f i) : InsIn key a i i f f' := by
  refine ⟨fun k hk => h.out k (by omega), ?_, fun p q h1 h2 h3 h4 h5 => h.sorted p q h1 h2 (by omega), fun q h1 h2 => by omega, ?_⟩
  · rw [seg_snoc f' ha, seg_snoc f ha, h.out i (by omega)]; exact h.perm.append_right _
  · intro p h1 h2 h3
    obtain ⟨j, b1, b2, e⟩ := h.mem h1 (by omega : p < i)
    rw [e, h.out i (by omega)]; exact hl j b1 b2
theorem InsIn.step {key : Int → Int} {a i j : Nat} {f h : Nat → Int} (H : InsIn key a i (j + 1) f h) (ha : a ≤ j) (hi : j + 1 ≤ i) (hk : key (h j) < key (h (j + 1))) : InsIn key a i j f (exch h (j + 1) j) := by
  have ev : ∀ k, k ≠ j → k ≠ j + 1 → exch h (j + 1) j k = h k := fun k h1 h2 => by unfold exch; rw [if_neg h2, if_neg h1]
  have e3 : exch h (j + 1) j j = h (j + 1) := by unfold exch; rw [if_neg (by omega), if_pos rfl]
  have e4 : exch h (j + 1) j (j + 1) = h j := by unfold exch; rw [if_pos rfl]
  refine ⟨fun k hk => by rw [ev k (by omega) (by omega)]; exact H.out k hk, (exch_perm h ha (by omega)).trans H.perm, ?_, ?_, ?_⟩
  · intro p q h1 h2 h3 h4 h5
    by_cases hp : p = j + 1
    · subst hp; rw [e4, ev q (by omega) (by omega)]; exact H.rest j q (by omega) (by omega) h3 (by omega) (by omega)
    · by_cases hq : q = j + 1
      · subst hq; rw [e4, ev p h4 hp]; exact H.rest p j h1 (by omega) (by omega) hp (by omega)
      · rw [ev p h4 hp, ev q h5 hq]; exact H.rest p q h1 h2 h3 hp hq
  · intro q h1 h2
    rw [e3]
    by_cases hq : q = j + 1
    · subst hq; rw [e4]; exact klt_of_lt hk
    · rw [ev q (by omega) hq]; exact H.past q (by omega) h2
  · intro p h1 h2 h3
    rw [e3]
    by_cases hp : p = j + 1
    · subst hp; rw [e4]; exact H.less j ha (by omega) (by omega)
    · rw [ev p h3 hp]; exact H.less p h1 h2 hp
theorem InsIn.stop {key : Int → Int} {a i j : Nat} {f h : Nat → Int} (H : InsIn key a i j f h) (ha : a ≤ j) (hi : j ≤ i) (hs : j = a ∨ ¬ key (h (j - 1)) < key (h j)) : Sorts key a (i + 1) f h := by
  refine ⟨fun k hk => H.out k (by omega), H.perm, ?_⟩
  intro p q h1 h2 h3
  by_cases hp : p = j
  · subst hp; exact H.past q h2 (by omega)
  · by_cases hq : q = j
    · subst hq
      rcases hs with hs | hs
      · omega
      · have hlast : klt key (h (q - 1)) (h q) := klt_of_not hs (H.less (q - 1) (by omega) (by omega) (by omega))
        by_cases hpq : p = q - 1
        · subst hpq; exact hlast
        · exact klt_trans (H.rest p (q - 1) h1 (by omega) (by omega) hp (by omega)) hlast
    · exact H.rest p q h1 h2 (by omega) hp hq

theorem InsIn.all {key : Int → Int} {a i j n : Nat} {f h : Nat → Int} (H : InsIn key a i j f h) (hb : i < n) {D : Int → Prop} (hD : ∀ k, k < n → D (f k)) (k : Nat) (hk : k < n) : D (h k) := by
  by_cases hk2 : a ≤ k ∧ k < i + 1
  · have : h k ∈ seg f a (i + 1) := H.perm.mem_iff.1 (mem_seg.2 ⟨k, hk2.1, hk2.2, rfl⟩)
    obtain ⟨l, _, a2, a3⟩ := mem_seg.1 this
    rw [← a3]; exact hD l (by omega)
  · rw [H.out k (by omega)]; exact hD k hk

/-- What a merge asks: two sorted runs, the numbers of the first less than those of the second. -/
structure Runs (key : Int → Int) (a m b : Nat) (f : Nat → Int) : Prop where
  left : ∀ p q, a ≤ p → p < q → q < m → klt key (f p) (f q)
  right : ∀ p q, m ≤ p → p < q → q < b → klt key (f p) (f q)
  cross : ∀ p q, a ≤ p → p < m → m ≤ q → q < b → f p < f q

end Go.Proofs.YtpkonifeieepfaaGreat
/-
slices.SortStableFunc at []int for fewer than twenty numbers that come in increasing order; the comparison may make memory.
-/

namespace Go.Proofs.YtpkonifeieepfaaGreat
open Go.RowKit
set_option linter.unusedVariables false
set_option linter.unusedSimpArgs false
/-- A row of at least n numbers. -/
def OwnP (w : World) (g n : Nat) (f : Nat → Int) : Prop := ∃ cs : Array Value, w.heap[g]? = some (.cells cs 3 (0, 0)) ∧ n ≤ cs.size ∧ ∀ i, i < n → cs[i]? = some (.int .i64 (f i))
section
variable {w w' : World} {g n : Nat} {f : Nat → Int}
theorem OwnP.lt (h : OwnP w g n f) : g < w.heap.size := by
  obtain ⟨cs, hb, _⟩ := h
  rcases Nat.lt_or_ge g w.heap.size with hlt | hge
  · exact hlt
  · rw [Array.getElem?_eq_none hge] at hb; cases hb
theorem OwnP.cell (h : OwnP w g n f) {i : Nat} (hi : i < n) : w.cell? ⟨g, i, none⟩ = some (.int .i64 (f i)) := by
  obtain ⟨cs, hb, hs, hc⟩ := h
  simp [World.cell?, hb, hc i hi]
theorem OwnP.frozen (h : OwnP w g n f) (i : Nat) : w.frozen? ⟨g, i, none⟩ = false := by
  obtain ⟨cs, hb, _⟩ := h
  simp [World.frozen?, hb]
theorem OwnP.congr (h : OwnP w g n f) {f' : Nat → Int} (e : ∀ i, i < n → f i = f' i) : OwnP w g n f' := by
  obtain ⟨cs, hb, hs, hc⟩ := h
  exact ⟨cs, hb, hs, fun i hi => by rw [hc i hi, e i hi]⟩
theorem OwnP.below (h : OwnP w g n f) (hb : Below w.heap.size w w') : OwnP w' g n f := by
  have hl := h.lt
  obtain ⟨cs, hh, hs, hc⟩ := h
  exact ⟨cs, (hb.block g hl).trans hh, hs, hc⟩
theorem OwnP.drew (h : OwnP w g n f) : OwnP w.drew g n f := h
theorem OwnP.drewN (h : OwnP w g n f) (k : Nat) : OwnP (w.drewN k) g n f := h
theorem OwnP.set (h : OwnP w g n f) (i : Nat) (x : Int) : OwnP (w.setCell ⟨g, i, none⟩ (.int .i64 x)) g n (fun j => if j = i then x else f j) := by
  obtain ⟨cs, hb, hs, hc⟩ := h
  refine ⟨cs.setIfInBounds i (.int .i64 x), ?_, by simpa using hs, fun j hj => ?_⟩
  · simp [World.setCell, Array.getElem?_modify, hb]
  · rw [Array.getElem?_setIfInBounds]
    by_cases e : i = j
    · subst e; simp; omega
    · have e' : ¬ j = i := fun x => e x.symm
      simp [e, e', hc j hj]
end
/-- The answer of cmp.Compare. -/
def cmpV (x y : Int) : Int := if x < y then -1 else if y < x then 1 else 0
theorem cmpV_neg {x y : Int} (h : x < y) : cmpV x y < 0 := by unfold cmpV; rw [if_pos h]; decide
theorem cmpV_not {x y : Int} (h : ¬ x < y) : ¬ cmpV x y < 0 := by unfold cmpV; rw [if_neg h]; split <;> decide
/-- The comparison: it answers by the keys, whatever the sort has done to block g. -/
def CmpR (key : Int → Int) (D : Int → Prop) (v1 : Value) (g : Nat) (w0 : World) : Prop := ∀ W, Mod (fun k => k = g) w0 W → ∀ x y, D x → D y →
  Calls Tryz.prog 40 #[.int .i64 x, .int .i64 y, v1] W fun e w' => e = .returned (.int .i64 (cmpV (key y) (key x))) ∧ Below W.heap.size W w'
/-- A world of the sort. -/
structure SortP (w0 : World) (g n : Nat) (f : Nat → Int) (w : World) : Prop where
  own : OwnP w g n f
  mod : Mod (fun k => k = g) w0 w
theorem SortP.drewN {w0 w : World} {g n : Nat} {f : Nat → Int} (h : SortP w0 g n f w) (k : Nat) : SortP w0 g n f (w.drewN k) := ⟨h.own.drewN k, h.mod.drewN k⟩
theorem SortP.below {w0 w w' : World} {g n : Nat} {f : Nat → Int} (h : SortP w0 g n f w) (hb : Below w.heap.size w w') : SortP w0 g n f w' := ⟨h.own.below hb, h.mod.trans (Mod.of_below hb |>.mono (fun k h1 h2 => by omega))⟩
theorem SortP.exch {w0 w : World} {g n : Nat} {f : Nat → Int} (h : SortP w0 g n f w) (i j : Nat) (x y : Int) (hx : x = f j) (hy : y = f i) (hij : i ≠ j) :
    SortP w0 g n (exch f i j) ((w.setCell ⟨g, i, none⟩ (.int .i64 x)).setCell ⟨g, j, none⟩ (.int .i64 y)).drew := by
  subst hx hy
  refine ⟨((h.own.set i _).set j _).drew.congr (fun k _ => ?_), ((h.mod.setCell (Or.inl rfl) _).setCell (Or.inl rfl) _).drew⟩
  unfold Go.Proofs.YtpkonifeieepfaaGreat.exch
  by_cases h1 : k = j
  · subst h1; rw [if_pos rfl, if_neg (fun e => hij e.symm), if_pos rfl]
  · rw [if_neg h1, if_neg h1]
def SortPostP (key : Int → Int) (a b : Nat) (f : Nat → Int) (w0 : World) (g n : Nat) (e : Ending) (w' : World) : Prop := e = .returned (.tuple #[]) ∧ ∃ f', Sorts key a b f f' ∧ SortP w0 g n f' w'
set_option maxRecDepth 100000 in
set_option maxHeartbeats 4000000 in
theorem sInsertR_any (key : Int → Int) (D : Int → Prop) (v1 : Value) (g n cap a b : Nat) (A B : Int) (f : Nat → Int) (w0 w : World) (eA : A = a) (eB : B = b) (HC0 : CmpR key D v1 g w0) (S0 : SortP w0 g n f w) (hab : a ≤ b) (hb : b ≤ n) (hn : n ≤ 1000000)
    (hD0 : ∀ k, k < n → D (f k)) (hasc0 : Asc f a b) :
    Calls Tryz.prog 125 #[.slice (some ⟨g, 0, none⟩) n cap, .int .i64 A, .int .i64 B, .func (.func 40) #[] #[v1]] w (SortPostP key a b f w0 g n) := by
  subst eA eB
  have HC := Lib.hid HC0
  have S := Lib.hid S0
  have hD := Lib.hid hD0
  have hasc := Lib.hid hasc0
  clear HC0 S0 hD0 hasc0
  go_enter Tryz.func125, Tryz.ntmps125
  go_wp2
  go_loopg [8] (b - a) (fun g1 vi wr => ∃ (i : Nat) (f1 : Nat → Int), vi = .int .i64 i ∧ a < i ∧ i ≤ b + 1 ∧ b + 1 - i ≤ g1 + 1 ∧ Hid (Sorts key a (min i b) f f1) ∧ Hid (SortP w0 g n f1 wr))
  case atStart => exact ⟨a + 1, f, by go_num, by omega, by omega, by omega, Lib.hid (Sorts.small (by omega)), S⟩
  case round =>
    clear S
    obtain ⟨i, f1, rfl, hai, hib, hg1, HS, S1⟩ := hrel
    by_cases hlt : i < b
    · have hltz : (i : Int) < (b : Int) := by omega
      go_wp2
      go_loopg [9] i (fun g2 vj wr2 => ∃ (j : Nat) (f2 : Nat → Int), vj = .int .i64 j ∧ a ≤ j ∧ j ≤ i ∧ j ≤ g2 ∧ Hid (InsIn key a i j f f2) ∧ Hid (SortP w0 g n f2 wr2))
      case atStart =>
        have HS' := HS.out
        rw [show min i b = i from by omega] at HS'
        exact ⟨i, f1, rfl, by omega, Nat.le_refl _, Nat.le_refl _, Lib.hid (InsIn.start (by omega) HS' (fun p h1 h2 => hasc.out p i h1 h2 hlt)), S1⟩
      case round =>
        clear S1 HS
        obtain ⟨j, f2, rfl, haj, hji, hg2, HI, SJ⟩ := hrel
        by_cases hja : j = a
        · subst hja
          have hjad : ¬ (j : Int) < (j : Int) := by omega
          have HS := Lib.hid (HI.out.stop haj hji (Or.inl rfl))
          go_wp2_with fail
          have hgd : decide ((j : Int) < (j : Int)) = false := by simp
          go_quiet (fail)
          have S2 := Lib.hid (SJ.out.drewN nq)
          clear SJ HI
          generalize wr.drewN nq = w2 at S2 ⊢
          clear nq
          go_wp2
          go_roundg (b - (i + 1))
          case measure => omega
          case rel => exact ⟨i + 1, f2, by go_num, by omega, by omega, by omega, Lib.hid (by rw [show min (i + 1) b = i + 1 from by omega]; exact HS.out), S2⟩
        · obtain ⟨jp, rfl⟩ : ∃ q, j = q + 1 := ⟨j - 1, by omega⟩
          by_cases hk : key (f2 jp) < key (f2 (jp + 1))
          · have hv : decide (cmpV (key (f2 jp)) (key (f2 (jp + 1))) < 0) = true := by simpa using cmpV_neg hk
            have HK := Lib.hid hk
            clear hk
            have hjad : (a : Int) < (jp : Int) + 1 := by omega
            have pa : (0 : Int) ≤ (jp : Int) + 1 := by omega
            have ba : (jp : Int) + 1 < (n : Int) := by omega
            have ra : IntKind.i64.wrap ((jp : Int) + 1) = (jp : Int) + 1 := by rw [IntKind.wrap_i64]; omega
            have pc1 : (0 : Int) ≤ (jp : Int) := by omega
            have bc1 : (jp : Int) < (n : Int) := by omega
            have rc : IntKind.i64.wrap (jp : Int) = (jp : Int) := by rw [IntKind.wrap_i64]; omega
            have la := SJ.out.own.cell (i := jp + 1) (by omega)
            have lb := SJ.out.own.cell (i := jp) (by omega)
            have lg : g < wr.heap.size := SJ.out.own.lt
            have hDj : ∀ k, k < n → D (f2 k) := HI.out.all (by omega) hD.out
            have HCM : Hid (∀ W, Below wr.heap.size wr W → Calls Tryz.prog 40 #[.int .i64 (f2 (jp + 1)), .int .i64 (f2 jp), v1] W fun e w' => e = .returned (.int .i64 (cmpV (key (f2 jp)) (key (f2 (jp + 1))))) ∧ Below W.heap.size W w') := Lib.hid (fun W hW => HC.out W (SJ.out.mod.trans (Mod.of_below hW |>.mono (fun k h1 h2 => by omega))) _ _ (hDj (jp + 1) (by omega)) (hDj jp (by omega)))
            clear hDj
            go_upto_region 4 with (fail)
            refine region_z (S := fun w' => Below wr.heap.size wr w') [] (by kernel_rfl) (Below.refl _ _).drew (fun hHeld => ?_)
            refine wpAnyZ_take (i := 0) (v := .int .i64 ((jp : Int) + 1)) [] rfl (by kernel_rfl) (by kernel_rfl) (by kernel_rfl) (by kernel_rfl) (fun _ _ _ h => h) (Or.inl ⟨by kernel_rfl, fun w' hSw => ?_⟩) hHeld ?_
            · clear hHeld
              go_simp
            simp only [Act.put, List.setIfInBounds_toArray, List.set_cons_zero, List.set_cons_succ]
            refine wpAnyZ_take (i := 1) (v := .int .i64 (a : Int)) [] rfl (by kernel_rfl) (by kernel_rfl) (by kernel_rfl) (by kernel_rfl) (fun _ _ _ h => h) (Or.inl ⟨by kernel_rfl, fun w' hSw => ?_⟩) hHeld ?_
            · clear hHeld
              go_simp
            simp only [Act.put, List.setIfInBounds_toArray, List.set_cons_zero, List.set_cons_succ]
            refine wpAnyZ_take (i := 2) (v := .bool true) [] rfl (by kernel_rfl) (by kernel_rfl) (by kernel_rfl) (by kernel_rfl) (fun _ _ _ h => h) (Or.inl ⟨by kernel_rfl, fun w' hSw => ?_⟩) hHeld ?_
            · clear hHeld
              go_simp
              first | done | omega | (simp; omega)
            simp only [Act.put, List.setIfInBounds_toArray, List.set_cons_zero, List.set_cons_succ]
            refine wpAnyZ_take (i := 3) (v := .bool true) [] rfl (by kernel_rfl) (by kernel_rfl) (by kernel_rfl) (by kernel_rfl) (fun _ _ _ h => h) (Or.inl ⟨by kernel_rfl, fun w' hSw => ?_⟩) hHeld ?_
            · clear hHeld
              go_simp
            simp only [Act.put, List.setIfInBounds_toArray, List.set_cons_zero, List.set_cons_succ]
            refine wpAnyZ_take (i := 4) (v := .func (.func 40) #[] #[v1]) [] rfl (by kernel_rfl) (by kernel_rfl) (by kernel_rfl) (by kernel_rfl) (fun _ _ _ h => h) (Or.inl ⟨by kernel_rfl, fun w' hSw => ?_⟩) hHeld ?_
            · clear hHeld
              go_simp
            simp only [Act.put, List.setIfInBounds_toArray, List.set_cons_zero, List.set_cons_succ]
            refine wpAnyZ_take (i := 5) (v := .slice (some ⟨g, 0, none⟩) n cap) [] rfl (by kernel_rfl) (by kernel_rfl) (by kernel_rfl) (by kernel_rfl) (fun _ _ _ h => h) (Or.inl ⟨by kernel_rfl, fun w' hSw => ?_⟩) hHeld ?_
            · clear hHeld
              go_simp
            simp only [Act.put, List.setIfInBounds_toArray, List.set_cons_zero, List.set_cons_succ]
            refine wpAnyZ_take (i := 6) (v := .int .i64 ((jp : Int) + 1)) [] rfl (by kernel_rfl) (by kernel_rfl) (by kernel_rfl) (by kernel_rfl) (fun _ _ _ h => h) (Or.inl ⟨by kernel_rfl, fun w' hSw => ?_⟩) hHeld ?_
            · clear hHeld
              go_simp
            simp only [Act.put, List.setIfInBounds_toArray, List.set_cons_zero, List.set_cons_succ]
            refine wpAnyZ_take (i := 7) (v := .pointer (some ⟨g, jp + 1, none⟩)) [] rfl (by kernel_rfl) (by kernel_rfl) (by kernel_rfl) (by kernel_rfl) (fun _ _ _ h => h) (Or.inl ⟨by kernel_rfl, fun w' hSw => ?_⟩) hHeld ?_
            · clear hHeld
              go_simp
            simp only [Act.put, List.setIfInBounds_toArray, List.set_cons_zero, List.set_cons_succ]
            refine wpAnyZ_take (i := 8) (v := .int .i64 (f2 (jp + 1))) [] rfl (by kernel_rfl) (by kernel_rfl) (by kernel_rfl) (by kernel_rfl) (fun _ _ _ h => h) (Or.inl ⟨by kernel_rfl, fun w' hSw => ?_⟩) hHeld ?_
            · clear hHeld
              have s0 := (hSw.cell (p := ⟨g, jp + 1, none⟩) lg).trans la
              go_simp
            simp only [Act.put, List.setIfInBounds_toArray, List.set_cons_zero, List.set_cons_succ]
            refine wpAnyZ_take (i := 9) (v := .slice (some ⟨g, 0, none⟩) n cap) [] rfl (by kernel_rfl) (by kernel_rfl) (by kernel_rfl) (by kernel_rfl) (fun _ _ _ h => h) (Or.inl ⟨by kernel_rfl, fun w' hSw => ?_⟩) hHeld ?_
            · clear hHeld
              go_simp
            simp only [Act.put, List.setIfInBounds_toArray, List.set_cons_zero, List.set_cons_succ]
            refine wpAnyZ_take (i := 10) (v := .int .i64 ((jp : Int) + 1)) [] rfl (by kernel_rfl) (by kernel_rfl) (by kernel_rfl) (by kernel_rfl) (fun _ _ _ h => h) (Or.inl ⟨by kernel_rfl, fun w' hSw => ?_⟩) hHeld ?_
            · clear hHeld
              go_simp
            simp only [Act.put, List.setIfInBounds_toArray, List.set_cons_zero, List.set_cons_succ]
            refine wpAnyZ_take (i := 11) (v := .int .i64 (jp : Int)) [] rfl (by kernel_rfl) (by kernel_rfl) (by kernel_rfl) (by kernel_rfl) (fun _ _ _ h => h) (Or.inl ⟨by kernel_rfl, fun w' hSw => ?_⟩) hHeld ?_
            · clear hHeld
              go_simp
            simp only [Act.put, List.setIfInBounds_toArray, List.set_cons_zero, List.set_cons_succ]
            refine wpAnyZ_take (i := 12) (v := .pointer (some ⟨g, jp, none⟩)) [] rfl (by kernel_rfl) (by kernel_rfl) (by kernel_rfl) (by kernel_rfl) (fun _ _ _ h => h) (Or.inl ⟨by kernel_rfl, fun w' hSw => ?_⟩) hHeld ?_
            · clear hHeld
              go_simp
            simp only [Act.put, List.setIfInBounds_toArray, List.set_cons_zero, List.set_cons_succ]
            refine wpAnyZ_take (i := 13) (v := .int .i64 (f2 jp)) [] rfl (by kernel_rfl) (by kernel_rfl) (by kernel_rfl) (by kernel_rfl) (fun _ _ _ h => h) (Or.inl ⟨by kernel_rfl, fun w' hSw => ?_⟩) hHeld ?_
            · clear hHeld
              have s0 := (hSw.cell (p := ⟨g, jp, none⟩) lg).trans lb
              go_simp
            simp only [Act.put, List.setIfInBounds_toArray, List.set_cons_zero, List.set_cons_succ]
            refine wpAnyZ_one (i := 14) (by kernel_rfl) rfl (fun K' hK => ?_)
            rw [if_pos (by kernel_rfl)]
            go_simp
            refine (HCM.out _ hHeld).mono ?_
            rintro e y1 ⟨rfl, hb⟩
            refine hK.out _ _ ?_ (fun hHeld' => ?_)
            · exact below_then hHeld hb
            clear hK K' hb hHeld
            have hHeld := hHeld'
            clear hHeld'
            try simp only [Act.put, List.setIfInBounds_toArray, List.set_cons_zero, List.set_cons_succ]
            refine wpAnyZ_take (i := 15) (v := .bool true) [] rfl (by kernel_rfl) (by kernel_rfl) (by kernel_rfl) (by kernel_rfl) (fun _ _ _ h => h) (Or.inl ⟨by kernel_rfl, fun w' hSw => ?_⟩) hHeld ?_
            · clear hHeld
              go_simp
              first | done | exact hv | simpa using hv | (simp only [hv]; done)
            simp only [Act.put, List.setIfInBounds_toArray, List.set_cons_zero, List.set_cons_succ]
            refine wpAnyZ_one (i := 16) (by kernel_rfl) rfl (fun K' hK => ?_)
            go_simp
            refine hK.out _ _ ?_ (fun hHeld => ?_)
            · exact hHeld
            clear hK K'
            try simp only [Act.put, List.setIfInBounds_toArray, List.set_cons_zero, List.set_cons_succ]
            refine wpAnyZ_done (by kernel_rfl) ?_ _
            have S2 := Lib.hid (SJ.out.below hHeld)
            clear hHeld la lb HCM SJ lg
            go_step
            have H3 := Lib.hid (S2.out.exch (jp + 1) jp _ _ rfl rfl (by omega))
            have la := S2.out.own.cell (i := jp + 1) (by omega)
            have lb := S2.out.own.cell (i := jp) (by omega)
            have fa := S2.out.own.frozen (jp + 1)
            have fb := S2.out.own.frozen jp
            have lc := (S2.out.own.set (jp + 1) (f2 jp)).cell (i := jp) (by omega)
            clear S2
            go_wp2_with fail
            go_big_region
            clear la lb lc fa fb
            generalize ((y1.setCell ⟨g, jp + 1, none⟩ (.int .i64 (f2 jp))).setCell ⟨g, jp, none⟩ (.int .i64 (f2 (jp + 1)))).drew = w3 at H3 ⊢
            go_wp2
            go_roundg jp
            case measure => omega
            case rel => exact ⟨jp, exch f2 (jp + 1) jp, by first | rfl | go_num, by omega, by omega, Nat.le_refl _, Lib.hid (HI.out.step (by omega) (by omega) HK.out), H3⟩
          · have hv : decide (cmpV (key (f2 jp)) (key (f2 (jp + 1))) < 0) = false := by simpa using cmpV_not hk
            have HS := Lib.hid (HI.out.stop haj hji (Or.inr (by simpa using hk)))
            clear hk
            have hjad : (a : Int) < (jp : Int) + 1 := by omega
            have pa : (0 : Int) ≤ (jp : Int) + 1 := by omega
            have ba : (jp : Int) + 1 < (n : Int) := by omega
            have ra : IntKind.i64.wrap ((jp : Int) + 1) = (jp : Int) + 1 := by rw [IntKind.wrap_i64]; omega
            have pc1 : (0 : Int) ≤ (jp : Int) := by omega
            have bc1 : (jp : Int) < (n : Int) := by omega
            have rc : IntKind.i64.wrap (jp : Int) = (jp : Int) := by rw [IntKind.wrap_i64]; omega
            have la := SJ.out.own.cell (i := jp + 1) (by omega)
            have lb := SJ.out.own.cell (i := jp) (by omega)
            have lg : g < wr.heap.size := SJ.out.own.lt
            have hDj : ∀ k, k < n → D (f2 k) := HI.out.all (by omega) hD.out
            have HCM : Hid (∀ W, Below wr.heap.size wr W → Calls Tryz.prog 40 #[.int .i64 (f2 (jp + 1)), .int .i64 (f2 jp), v1] W fun e w' => e = .returned (.int .i64 (cmpV (key (f2 jp)) (key (f2 (jp + 1))))) ∧ Below W.heap.size W w') := Lib.hid (fun W hW => HC.out W (SJ.out.mod.trans (Mod.of_below hW |>.mono (fun k h1 h2 => by omega))) _ _ (hDj (jp + 1) (by omega)) (hDj jp (by omega)))
            clear hDj
            go_upto_region 4 with (fail)
            refine region_z (S := fun w' => Below wr.heap.size wr w') [] (by kernel_rfl) (Below.refl _ _).drew (fun hHeld => ?_)
            refine wpAnyZ_take (i := 0) (v := .int .i64 ((jp : Int) + 1)) [] rfl (by kernel_rfl) (by kernel_rfl) (by kernel_rfl) (by kernel_rfl) (fun _ _ _ h => h) (Or.inl ⟨by kernel_rfl, fun w' hSw => ?_⟩) hHeld ?_
            · clear hHeld
              go_simp
            simp only [Act.put, List.setIfInBounds_toArray, List.set_cons_zero, List.set_cons_succ]
            refine wpAnyZ_take (i := 1) (v := .int .i64 (a : Int)) [] rfl (by kernel_rfl) (by kernel_rfl) (by kernel_rfl) (by kernel_rfl) (fun _ _ _ h => h) (Or.inl ⟨by kernel_rfl, fun w' hSw => ?_⟩) hHeld ?_
            · clear hHeld
              go_simp
            simp only [Act.put, List.setIfInBounds_toArray, List.set_cons_zero, List.set_cons_succ]
            refine wpAnyZ_take (i := 2) (v := .bool true) [] rfl (by kernel_rfl) (by kernel_rfl) (by kernel_rfl) (by kernel_rfl) (fun _ _ _ h => h) (Or.inl ⟨by kernel_rfl, fun w' hSw => ?_⟩) hHeld ?_
            · clear hHeld
              go_simp
              first | done | omega | (simp; omega)
            simp only [Act.put, List.setIfInBounds_toArray, List.set_cons_zero, List.set_cons_succ]
            refine wpAnyZ_take (i := 3) (v := .bool true) [] rfl (by kernel_rfl) (by kernel_rfl) (by kernel_rfl) (by kernel_rfl) (fun _ _ _ h => h) (Or.inl ⟨by kernel_rfl, fun w' hSw => ?_⟩) hHeld ?_
            · clear hHeld
              go_simp
            simp only [Act.put, List.setIfInBounds_toArray, List.set_cons_zero, List.set_cons_succ]
            refine wpAnyZ_take (i := 4) (v := .func (.func 40) #[] #[v1]) [] rfl (by kernel_rfl) (by kernel_rfl) (by kernel_rfl) (by kernel_rfl) (fun _ _ _ h => h) (Or.inl ⟨by kernel_rfl, fun w' hSw => ?_⟩) hHeld ?_
            · clear hHeld
              go_simp
            simp only [Act.put, List.setIfInBounds_toArray, List.set_cons_zero, List.set_cons_succ]
            refine wpAnyZ_take (i := 5) (v := .slice (some ⟨g, 0, none⟩) n cap) [] rfl (by kernel_rfl) (by kernel_rfl) (by kernel_rfl) (by kernel_rfl) (fun _ _ _ h => h) (Or.inl ⟨by kernel_rfl, fun w' hSw => ?_⟩) hHeld ?_
            · clear hHeld
              go_simp
            simp only [Act.put, List.setIfInBounds_toArray, List.set_cons_zero, List.set_cons_succ]
            refine wpAnyZ_take (i := 6) (v := .int .i64 ((jp : Int) + 1)) [] rfl (by kernel_rfl) (by kernel_rfl) (by kernel_rfl) (by kernel_rfl) (fun _ _ _ h => h) (Or.inl ⟨by kernel_rfl, fun w' hSw => ?_⟩) hHeld ?_
            · clear hHeld
              go_simp
            simp only [Act.put, List.setIfInBounds_toArray, List.set_cons_zero, List.set_cons_succ]
            refine wpAnyZ_take (i := 7) (v := .pointer (some ⟨g, jp + 1, none⟩)) [] rfl (by kernel_rfl) (by kernel_rfl) (by kernel_rfl) (by kernel_rfl) (fun _ _ _ h => h) (Or.inl ⟨by kernel_rfl, fun w' hSw => ?_⟩) hHeld ?_
            · clear hHeld
              go_simp
            simp only [Act.put, List.setIfInBounds_toArray, List.set_cons_zero, List.set_cons_succ]
            refine wpAnyZ_take (i := 8) (v := .int .i64 (f2 (jp + 1))) [] rfl (by kernel_rfl) (by kernel_rfl) (by kernel_rfl) (by kernel_rfl) (fun _ _ _ h => h) (Or.inl ⟨by kernel_rfl, fun w' hSw => ?_⟩) hHeld ?_
            · clear hHeld
              have s0 := (hSw.cell (p := ⟨g, jp + 1, none⟩) lg).trans la
              go_simp
            simp only [Act.put, List.setIfInBounds_toArray, List.set_cons_zero, List.set_cons_succ]
            refine wpAnyZ_take (i := 9) (v := .slice (some ⟨g, 0, none⟩) n cap) [] rfl (by kernel_rfl) (by kernel_rfl) (by kernel_rfl) (by kernel_rfl) (fun _ _ _ h => h) (Or.inl ⟨by kernel_rfl, fun w' hSw => ?_⟩) hHeld ?_
            · clear hHeld
              go_simp
            simp only [Act.put, List.setIfInBounds_toArray, List.set_cons_zero, List.set_cons_succ]
            refine wpAnyZ_take (i := 10) (v := .int .i64 ((jp : Int) + 1)) [] rfl (by kernel_rfl) (by kernel_rfl) (by kernel_rfl) (by kernel_rfl) (fun _ _ _ h => h) (Or.inl ⟨by kernel_rfl, fun w' hSw => ?_⟩) hHeld ?_
            · clear hHeld
              go_simp
            simp only [Act.put, List.setIfInBounds_toArray, List.set_cons_zero, List.set_cons_succ]
            refine wpAnyZ_take (i := 11) (v := .int .i64 (jp : Int)) [] rfl (by kernel_rfl) (by kernel_rfl) (by kernel_rfl) (by kernel_rfl) (fun _ _ _ h => h) (Or.inl ⟨by kernel_rfl, fun w' hSw => ?_⟩) hHeld ?_
            · clear hHeld
              go_simp
            simp only [Act.put, List.setIfInBounds_toArray, List.set_cons_zero, List.set_cons_succ]
            refine wpAnyZ_take (i := 12) (v := .pointer (some ⟨g, jp, none⟩)) [] rfl (by kernel_rfl) (by kernel_rfl) (by kernel_rfl) (by kernel_rfl) (fun _ _ _ h => h) (Or.inl ⟨by kernel_rfl, fun w' hSw => ?_⟩) hHeld ?_
            · clear hHeld
              go_simp
            simp only [Act.put, List.setIfInBounds_toArray, List.set_cons_zero, List.set_cons_succ]
            refine wpAnyZ_take (i := 13) (v := .int .i64 (f2 jp)) [] rfl (by kernel_rfl) (by kernel_rfl) (by kernel_rfl) (by kernel_rfl) (fun _ _ _ h => h) (Or.inl ⟨by kernel_rfl, fun w' hSw => ?_⟩) hHeld ?_
            · clear hHeld
              have s0 := (hSw.cell (p := ⟨g, jp, none⟩) lg).trans lb
              go_simp
            simp only [Act.put, List.setIfInBounds_toArray, List.set_cons_zero, List.set_cons_succ]
            refine wpAnyZ_one (i := 14) (by kernel_rfl) rfl (fun K' hK => ?_)
            rw [if_pos (by kernel_rfl)]
            go_simp
            refine (HCM.out _ hHeld).mono ?_
            rintro e y1 ⟨rfl, hb⟩
            refine hK.out _ _ ?_ (fun hHeld' => ?_)
            · exact below_then hHeld hb
            clear hK K' hb hHeld
            have hHeld := hHeld'
            clear hHeld'
            try simp only [Act.put, List.setIfInBounds_toArray, List.set_cons_zero, List.set_cons_succ]
            refine wpAnyZ_take (i := 15) (v := .bool false) [] rfl (by kernel_rfl) (by kernel_rfl) (by kernel_rfl) (by kernel_rfl) (fun _ _ _ h => h) (Or.inl ⟨by kernel_rfl, fun w' hSw => ?_⟩) hHeld ?_
            · clear hHeld
              go_simp
              first | done | exact hv | simpa using hv | (simp only [hv]; done)
            simp only [Act.put, List.setIfInBounds_toArray, List.set_cons_zero, List.set_cons_succ]
            refine wpAnyZ_one (i := 16) (by kernel_rfl) rfl (fun K' hK => ?_)
            go_simp
            refine hK.out _ _ ?_ (fun hHeld => ?_)
            · exact hHeld
            clear hK K'
            try simp only [Act.put, List.setIfInBounds_toArray, List.set_cons_zero, List.set_cons_succ]
            refine wpAnyZ_done (by kernel_rfl) ?_ _
            have S2 := Lib.hid (SJ.out.below hHeld)
            clear hHeld la lb HCM SJ lg
            go_step
            clear HI
            go_wp2
            go_roundg (b - (i + 1))
            case measure => omega
            case rel => exact ⟨i + 1, f2, by go_num, by omega, by omega, by omega, Lib.hid (by rw [show min (i + 1) b = i + 1 from by omega]; exact HS.out), S2⟩
    · go_wp2
      go_end0
      exact ⟨rfl, f1, by have := HS.out; rwa [show min i b = b from by omega] at this, S1.out⟩
set_option maxHeartbeats 2000000 in
theorem sStableR_few (key : Int → Int) (D : Int → Prop) (v1 : Value) (g n cap : Nat) (f : Nat → Int) (w0 w : World) (HC0 : CmpR key D v1 g w0) (S0 : SortP w0 g n f w) (hn : n < 20) (hD0 : ∀ k, k < n → D (f k)) (hasc0 : Asc f 0 n) :
    Calls Tryz.prog 83 #[.slice (some ⟨g, 0, none⟩) n cap, .int .i64 n, .func (.func 40) #[] #[v1]] w (SortPostP key 0 n f w0 g n) := by
  have HC := Lib.hid HC0
  have S := Lib.hid S0
  have hD := Lib.hid hD0
  have hasc := Lib.hid hasc0
  clear HC0 S0 hD0 hasc0
  have c1 : ¬ (20 : Int) ≤ (n : Int) := by omega
  have c2 : ¬ (20 : Int) < (n : Int) := by omega
  go_enter Tryz.func83, Tryz.ntmps83
  go_wp2
  refine wp_loop_rounds 1 ?_
  rw [rounds_succ]
  go_wp2_with fail
  refine (sInsertR_any key D v1 g n cap 0 n _ _ f w0 _ rfl rfl HC.out S.out (by omega) (by omega) (by omega) hD.out hasc.out).mono ?_
  rintro e w1 ⟨rfl, f1, HS, S1⟩
  have H1 := Lib.hid HS
  have H2 := Lib.hid S1
  clear HS S1 S
  go_wp2
  refine wp_loop_rounds 1 ?_
  rw [rounds_succ]
  go_wp2
  go_end0
  exact ⟨rfl, f1, H1.out, H2.out⟩
theorem sSortStableR_few (key : Int → Int) (D : Int → Prop) (v1 : Value) (g n cap : Nat) (f : Nat → Int) (w0 w : World) (HC0 : CmpR key D v1 g w0) (S0 : SortP w0 g n f w) (hn : n < 20) (hD0 : ∀ k, k < n → D (f k)) (hasc0 : Asc f 0 n) :
    Calls Tryz.prog 39 #[.slice (some ⟨g, 0, none⟩) n cap, .func (.func 40) #[] #[v1]] w (SortPostP key 0 n f w0 g n) := by
  have HC := Lib.hid (sStableR_few key D v1 g n cap f w0 w HC0 S0 hn hD0 hasc0)
  clear HC0 S0 hD0 hasc0
  go_enter Tryz.func39, Tryz.ntmps39
  go_wp2_with fail
  refine HC.out.mono ?_
  rintro e w1 ⟨rfl, h⟩
  have H := Lib.hid h
  clear h HC
  go_wp2_with fail
  go_end0
  exact ⟨rfl, H.out⟩
end Go.Proofs.YtpkonifeieepfaaGreat
