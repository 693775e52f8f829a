/-
Plain mathematics of a division of an amount by weights: quotients, rests, ranks. No program.
-/
import Derived.Test.YtahpoikbnjhkgaaSortMath
namespace Go.Proofs.Ytahpoikbnjhkgaa

def wt (ws : List Int) (i : Nat) : Int := ws[i]?.getD 0
def sumF (f : Nat → Int) : Nat → Int
  | 0 => 0
  | k + 1 => sumF f k + f k
def qV (A S : Int) (ws : List Int) (i : Nat) : Int := A * wt ws i / S
def rV (A S : Int) (ws : List Int) (i : Nat) : Int := A * wt ws i % S
def leftV (A S : Int) (ws : List Int) (n : Nat) : Int := A - sumF (qV A S ws) n
/-- The key of an index that is a number of the program. -/
def keyV (A S : Int) (ws : List Int) (x : Int) : Int := rV A S ws x.toNat
theorem sumF_le {f g : Nat → Int} {n : Nat} (h : ∀ i, i < n → f i ≤ g i) : sumF f n ≤ sumF g n := by
  induction n with
  | zero => exact Int.le_refl _
  | succ n ih => have := ih (fun i hi => h i (by omega)); have := h n (by omega); simp only [sumF]; omega
theorem sumF_const (c : Int) (n : Nat) : sumF (fun _ => c) n = n * c := by
  induction n with
  | zero => simp [sumF]
  | succ n ih => simp only [sumF, ih, Int.natCast_add, Int.add_mul]; omega
theorem sumF_congr {f g : Nat → Int} {n : Nat} (h : ∀ i, i < n → f i = g i) : sumF f n = sumF g n := by
  induction n with
  | zero => rfl
  | succ n ih => simp only [sumF]; rw [ih (fun i hi => h i (by omega)), h n (by omega)]
theorem sumF_add (f g : Nat → Int) (n : Nat) : sumF (fun i => f i + g i) n = sumF f n + sumF g n := by
  induction n with
  | zero => rfl
  | succ n ih => simp only [sumF, ih]; omega
theorem sumF_mul (c : Int) (f : Nat → Int) (n : Nat) : sumF (fun i => c * f i) n = c * sumF f n := by
  induction n with
  | zero => simp [sumF]
  | succ n ih => simp only [sumF, ih, Int.mul_add]
theorem qr (A S : Int) (ws : List Int) (i : Nat) : S * qV A S ws i + rV A S ws i = A * wt ws i := by unfold qV rV; exact Int.mul_ediv_add_emod _ _
theorem r_bd {A S : Int} {ws : List Int} {i : Nat} (hS : 0 < S) : 0 ≤ rV A S ws i ∧ rV A S ws i < S := ⟨Int.emod_nonneg _ (by omega), Int.emod_lt_of_pos _ hS⟩
theorem q_nonneg {A S : Int} {ws : List Int} {i : Nat} (hA : 0 ≤ A) (hS : 0 < S) (hw : 0 ≤ wt ws i) : 0 ≤ qV A S ws i := Int.ediv_nonneg (Int.mul_nonneg hA hw) (by omega)
theorem q_le {A S : Int} {ws : List Int} {i : Nat} (hA : 0 ≤ A) (hA2 : A ≤ 1000000000) (hw : 0 ≤ wt ws i) (hw2 : wt ws i ≤ 1000000) : qV A S ws i ≤ 1000000000000000 := by
  unfold qV
  have h1 : A * wt ws i ≤ 1000000000 * 1000000 := Int.mul_le_mul hA2 hw2 hw (by omega)
  have h0 : 0 ≤ A * wt ws i := Int.mul_nonneg hA hw
  exact Int.le_trans (Int.ediv_le_self _ h0) (by omega)
/-- What is left over, times the sum, is the sum of the rests. -/
theorem left_mul {A S : Int} {ws : List Int} {n : Nat} (hs : sumF (wt ws) n = S) : S * leftV A S ws n = sumF (rV A S ws) n := by
  have h : sumF (fun i => S * qV A S ws i + rV A S ws i) n = sumF (fun i => A * wt ws i) n := sumF_congr (fun i _ => qr A S ws i)
  rw [sumF_add, sumF_mul, sumF_mul, hs] at h
  unfold leftV
  rw [Int.mul_sub]
  have : A * S = S * A := Int.mul_comm _ _
  omega
theorem left_bd {A S : Int} {ws : List Int} {n : Nat} (hS : 0 < S) (hs : sumF (wt ws) n = S) (hn : 0 < n) : 0 ≤ leftV A S ws n ∧ leftV A S ws n < n := by
  have e := left_mul (A := A) hs
  have lo : 0 ≤ sumF (rV A S ws) n := by
    have := sumF_le (f := fun _ => 0) (g := rV A S ws) (n := n) (fun i _ => (r_bd hS).1)
    rw [sumF_const] at this; omega
  have hi : sumF (rV A S ws) n ≤ n * (S - 1) := by
    have := sumF_le (f := rV A S ws) (g := fun _ => S - 1) (n := n) (fun i _ => by have := (r_bd (A := A) (ws := ws) (i := i) hS).2; omega)
    rwa [sumF_const] at this
  constructor
  · rcases Int.lt_or_le (leftV A S ws n) 0 with h | h
    · have : S * leftV A S ws n < 0 := Int.mul_neg_of_pos_of_neg hS h
      omega
    · exact h
  · rcases Int.lt_or_le (leftV A S ws n) n with h | h
    · exact h
    · have h2 : S * n ≤ S * leftV A S ws n := Int.mul_le_mul_of_nonneg_left h (by omega)
      have h3 : (n : Int) * (S - 1) = S * n - n := by rw [Int.mul_sub, Int.mul_one, Int.mul_comm]
      omega

theorem left_rough {A S : Int} {ws : List Int} (hA : 0 ≤ A) (hA2 : A ≤ 1000000000) (hS : 0 < S) (hw : ∀ i, 0 ≤ wt ws i ∧ wt ws i ≤ 1000000) (k : Nat) (hk : k ≤ 32) : -100000000000000000 ≤ leftV A S ws k ∧ leftV A S ws k ≤ 1000000000 := by
  have h1 := sumF_le (f := fun _ => 0) (g := qV A S ws) (n := k) (fun i _ => q_nonneg hA hS (hw i).1)
  have h2 := sumF_le (f := qV A S ws) (g := fun _ => 1000000000000000) (n := k) (fun i _ => q_le hA hA2 (hw i).1 (hw i).2)
  rw [sumF_const] at h1 h2
  unfold leftV
  omega
theorem left_succ (A S : Int) (ws : List Int) (k : Nat) : leftV A S ws (k + 1) = leftV A S ws k - qV A S ws k := by unfold leftV; simp only [sumF]; omega
/-- The first k indices of an order get one more. -/
def bumps (o : Nat → Int) (q : Nat → Int) : Nat → Nat → Int
  | 0 => q
  | k + 1 => fun i => if o k = (i : Int) then bumps o q k i + 1 else bumps o q k i
theorem bumps_bd (o q : Nat → Int) (k i : Nat) : q i ≤ bumps o q k i ∧ bumps o q k i ≤ q i + k := by
  induction k with
  | zero => simp [bumps]
  | succ k ih => simp only [bumps]; split <;> omega
/-- How many indices below n come before x. -/
def rank (key : Int → Int) (n : Nat) (x : Int) : Nat := (List.range n).countP (fun (j : Nat) => decide (key x < key (j : Int)) || (decide (key (j : Int) = key x) && decide ((j : Int) < x)))
theorem countP_lt (n k : Nat) (h : k ≤ n) : (List.range n).countP (fun j => decide (j < k)) = k := by
  induction n with
  | zero => simp; omega
  | succ n ih =>
    rw [List.range_succ, List.countP_append]
    by_cases hk : k ≤ n
    · rw [ih hk]; simp; omega
    · obtain rfl : k = n + 1 := by omega
      have : (List.range n).countP (fun j => decide (j < n + 1)) = n := by
        rw [List.countP_eq_length.2 (fun x hx => by rw [List.mem_range] at hx; simp; omega), List.length_range]
      rw [this]; simp
theorem rank_at {key : Int → Int} {n : Nat} {o : Nat → Int} (h : Sorts key 0 n (fun i => (i : Int)) o) {k : Nat} (hk : k < n) : rank key n (o k) = k := by
  have e1 : rank key n (o k) = (seg (fun i => (i : Int)) 0 n).countP (fun j => decide (key (o k) < key j) || (decide (key j = key (o k)) && decide (j < o k))) := by
    unfold rank seg
    rw [List.countP_map, Nat.sub_zero]
    apply List.countP_congr
    intro j _
    simp [Function.comp]
  rw [e1, ← h.perm.countP_eq]
  unfold seg
  rw [List.countP_map, Nat.sub_zero]
  have e2 : (List.range n).countP (fun j => decide (j < k)) = k := countP_lt n k (by omega)
  rw [← e2]
  apply List.countP_congr
  intro j hj
  rw [List.mem_range] at hj
  simp only [Function.comp, Nat.zero_add]
  rw [e2]
  rcases Nat.lt_trichotomy j k with c | c | c
  · have := h.sorted j k (by omega) c hk
    unfold klt at this
    simp only [c, decide_true, iff_true]
    rcases this with x | ⟨x, y⟩
    · simp [x]
    · simp [x, y]
  · subst c; simp
  · have := h.sorted k j (by omega) c hj
    unfold klt at this
    have c' : ¬ j < k := by omega
    simp only [c', decide_false, Bool.false_eq_true, iff_false]
    rcases this with x | ⟨x, y⟩
    · have h1 : ¬ key (o k) < key (o j) := by omega
      have h2 : ¬ key (o j) = key (o k) := by omega
      simp [h1, h2]
    · have h1 : ¬ key (o k) < key (o j) := by omega
      have h2 : ¬ o j < o k := by omega
      simp [h1, h2]
/-- Every index has its place in the order. -/
theorem place_of {key : Int → Int} {n : Nat} {o : Nat → Int} (h : Sorts key 0 n (fun i => (i : Int)) o) {i : Nat} (hi : i < n) : ∃ k, k < n ∧ o k = (i : Int) := by
  have : (i : Int) ∈ seg o 0 n := h.perm.mem_iff.2 (mem_seg.2 ⟨i, by omega, hi, rfl⟩)
  obtain ⟨k, _, k2, e⟩ := mem_seg.1 this
  exact ⟨k, k2, e⟩
theorem rank_lt {key : Int → Int} {n : Nat} {o : Nat → Int} (h : Sorts key 0 n (fun i => (i : Int)) o) {i : Nat} (hi : i < n) : rank key n i < n ∧ o (rank key n i) = (i : Int) := by
  obtain ⟨k, hk, e⟩ := place_of h hi
  rw [← e, rank_at h hk]
  exact ⟨hk, rfl⟩
theorem bumps_rank {key : Int → Int} {n : Nat} {o : Nat → Int} (h : Sorts key 0 n (fun i => (i : Int)) o) (q : Nat → Int) {k i : Nat} (hk : k ≤ n) (hi : i < n) : bumps o q k i = q i + if rank key n i < k then 1 else 0 := by
  obtain ⟨hr, er⟩ := rank_lt h hi
  induction k with
  | zero => simp [bumps]
  | succ k ih =>
    simp only [bumps]
    rw [ih (by omega)]
    by_cases c : o k = (i : Int)
    · have : rank key n i = k := by rw [← c]; exact rank_at h (by omega)
      rw [if_pos c, this, if_neg (by omega), if_pos (by omega)]; omega
    · have : rank key n i ≠ k := by intro e; rw [e] at er; exact c er
      rw [if_neg c]
      by_cases d : rank key n i < k
      · rw [if_pos d, if_pos (by omega)]
      · rw [if_neg d, if_neg (by omega)]
end Go.Proofs.Ytahpoikbnjhkgaa
