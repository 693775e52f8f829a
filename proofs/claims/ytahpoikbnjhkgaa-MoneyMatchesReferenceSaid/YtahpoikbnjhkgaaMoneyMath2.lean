/-
Plain mathematics of the parts of an amount: their sum, their distance from the exact shares, their order, their scale. No program.
-/
import Derived.Test.YtahpoikbnjhkgaaMoneyMath
namespace Go.Proofs.Ytahpoikbnjhkgaa

theorem seg_getElem (f : Nat → Int) (n k : Nat) (hk : k < n) : (seg f 0 n)[k]? = some (f k) := by
  unfold seg; rw [List.getElem?_map, Nat.sub_zero, List.getElem?_range hk]; simp
theorem exists_sorts (key : Int → Int) (n : Nat) : ∃ o, Sorts key 0 n (fun i => (i : Int)) o := by
  let le : Int → Int → Bool := fun x y => decide (key y < key x) || (decide (key x = key y) && decide (x ≤ y))
  have htr : ∀ a b c : Int, le a b = true → le b c = true → le a c = true := by
    intro a b c h1 h2
    simp only [le, Bool.or_eq_true, Bool.and_eq_true, decide_eq_true_eq] at *
    omega
  have hto : ∀ a b : Int, (le a b || le b a) = true := by
    intro a b
    simp only [le, Bool.or_eq_true, Bool.and_eq_true, decide_eq_true_eq]
    omega
  let l := (seg (fun i => (i : Int)) 0 n).mergeSort le
  have hp : l.Perm (seg (fun i => (i : Int)) 0 n) := List.mergeSort_perm _ _
  have hs : l.Pairwise (fun a b => le a b = true) := List.pairwise_mergeSort htr hto _
  have hl : l.length = n := by rw [hp.length_eq, seg_length]; omega
  have hnd : l.Pairwise (fun a b => a ≠ b) := by
    have h0 : (seg (fun i => (i : Int)) 0 n).Pairwise (fun a b => a ≠ b) := by
      unfold seg
      rw [List.pairwise_map]
      refine List.Pairwise.imp (R := fun a b => a < b) ?_ List.pairwise_lt_range
      intro a b hab
      show (((0 + a : Nat) : Int)) ≠ ((0 + b : Nat) : Int)
      omega
    exact (hp.pairwise_iff (fun h => Ne.symm h)).2 h0
  have heq : seg (fun k => l[k]?.getD 0) 0 n = l := by
    apply List.ext_getElem?
    intro k
    by_cases hk : k < n
    · rw [seg_getElem _ n k hk, List.getElem?_eq_getElem (by omega : k < l.length)]; rfl
    · rw [List.getElem?_eq_none (by rw [seg_length]; omega), List.getElem?_eq_none (by omega)]
  refine ⟨fun k => if k < n then l[k]?.getD 0 else (k : Int), ?_, ?_, ?_⟩
  · intro k hk; rw [if_neg (by omega)]
  · rw [seg_congr (g := fun k => l[k]?.getD 0) (fun k _ hk => by rw [if_pos hk]), heq]; exact hp
  · intro p q _ hpq hq
    rw [if_pos (by omega), if_pos hq, List.getElem?_eq_getElem (by omega : p < l.length), List.getElem?_eq_getElem (by omega : q < l.length)]
    show klt key l[p] l[q]
    have h1 := List.pairwise_iff_getElem.1 hs p q (by omega) (by omega) hpq
    have h2 := List.pairwise_iff_getElem.1 hnd p q (by omega) (by omega) hpq
    simp only [le, Bool.or_eq_true, Bool.and_eq_true, decide_eq_true_eq] at h1
    unfold klt
    omega
theorem rank_mono {key : Int → Int} {n i j : Nat} (hi : i < n) (hj : j < n) (h : klt key i j) : rank key n i < rank key n j := by
  obtain ⟨o, ho⟩ := exists_sorts key n
  obtain ⟨ri, ei⟩ := rank_lt ho hi
  obtain ⟨rj, ej⟩ := rank_lt ho hj
  rcases Nat.lt_trichotomy (rank key n i) (rank key n j) with c | c | c
  · exact c
  · rw [c, ej] at ei
    rw [ei] at h
    exact (klt_irrefl h).elim
  · have := ho.sorted _ _ (Nat.zero_le _) c ri
    rw [ei, ej] at this
    exact (klt_irrefl (klt_trans h this)).elim
/-- A sum of ones is a count. -/
theorem sumF_ind (P : Nat → Prop) [DecidablePred P] (n : Nat) : sumF (fun i => if P i then 1 else 0) n = (List.range n).countP (fun i => decide (P i)) := by
  induction n with
  | zero => rfl
  | succ n ih =>
    simp only [sumF]
    rw [List.range_succ, List.countP_append, ih]
    by_cases h : P n <;> simp [h]
theorem sum_rank (key : Int → Int) {n L : Nat} (hL : L ≤ n) : sumF (fun i => if rank key n i < L then 1 else 0) n = L := by
  obtain ⟨o, ho⟩ := exists_sorts key n
  rw [sumF_ind (fun i : Nat => rank key n (i : Int) < L)]
  have e1 : (List.range n).countP (fun (i : Nat) => decide (rank key n (i : Int) < L)) = (seg (fun i => (i : Int)) 0 n).countP (fun x => decide (rank key n x < L)) := by
    unfold seg
    rw [List.countP_map, Nat.sub_zero]
    apply List.countP_congr
    intro j _
    simp [Function.comp]
  rw [e1, ← ho.perm.countP_eq]
  unfold seg
  rw [List.countP_map, Nat.sub_zero]
  have e2 := countP_lt n L hL
  have e3 : (List.range n).countP ((fun x => decide (rank key n x < L)) ∘ fun k => o (0 + k)) = (List.range n).countP (fun j => decide (j < L)) := by
    apply List.countP_congr
    intro j hj
    rw [List.mem_range] at hj
    simp only [Function.comp, Nat.zero_add]
    rw [rank_at ho hj]
  rw [e3, e2]
/-- Only indices with a rest get one more. -/
theorem rest_pos {A S : Int} {ws : List Int} {n i : Nat} (hS : 0 < S) (hs : sumF (wt ws) n = S) (hn : 0 < n) (h : rank (keyV A S ws) n i < (leftV A S ws n).toNat) : 0 < rV A S ws i := by
  rcases Int.lt_or_le 0 (rV A S ws i) with c | c
  · exact c
  · exfalso
    have h0 : rV A S ws i = 0 := by have := (r_bd (A := A) (ws := ws) (i := i) hS).1; omega
    have h1 : (List.range n).countP (fun j => decide (0 < rV A S ws j)) ≤ rank (keyV A S ws) n i := by
      unfold rank
      apply List.countP_mono_left
      intro j _ hj
      rw [decide_eq_true_eq] at hj
      have : keyV A S ws (i : Int) < keyV A S ws (j : Int) := by unfold keyV; simp only [Int.toNat_natCast]; omega
      simp [this]
    have e := left_mul (A := A) hs
    have h2 : sumF (rV A S ws) n ≤ sumF (fun j => S * (if 0 < rV A S ws j then 1 else 0)) n := by
      apply sumF_le
      intro j _
      have := r_bd (A := A) (ws := ws) (i := j) hS
      by_cases hp : 0 < rV A S ws j
      · rw [if_pos hp]; omega
      · rw [if_neg hp]; omega
    rw [sumF_mul, sumF_ind (fun j => 0 < rV A S ws j)] at h2
    have hl := left_bd (A := A) hS hs hn
    have h3 : leftV A S ws n ≤ ((List.range n).countP (fun j => decide (0 < rV A S ws j)) : Nat) := by
      apply Int.le_of_mul_le_mul_left (a := S) _ hS
      omega
    omega
/-- One part of an amount. -/
def pV (A S : Int) (ws : List Int) (n i : Nat) : Int := qV A S ws i + if rank (keyV A S ws) n i < (leftV A S ws n).toNat then 1 else 0
section
variable {A S : Int} {ws : List Int} {n : Nat}
theorem pV_sum (hS : 0 < S) (hs : sumF (wt ws) n = S) (hn : 0 < n) : sumF (pV A S ws n) n = A := by
  unfold pV
  have hl := left_bd (A := A) hS hs hn
  rw [sumF_add, sum_rank (keyV A S ws) (by omega)]
  unfold leftV at hl ⊢
  omega
theorem pV_off {i : Nat} (hA : 0 ≤ A) (hS : 0 < S) (hs : sumF (wt ws) n = S) (hn : 0 < n) (hw : 0 ≤ wt ws i) :
    0 ≤ pV A S ws n i ∧ -S < pV A S ws n i * S - A * wt ws i ∧ pV A S ws n i * S - A * wt ws i < S ∧ (wt ws i = 0 → pV A S ws n i = 0) := by
  have hq := qr A S ws i
  have hr := r_bd (A := A) (ws := ws) (i := i) hS
  have q0 := q_nonneg (ws := ws) (i := i) hA hS hw
  unfold pV
  by_cases c : rank (keyV A S ws) n i < (leftV A S ws n).toNat
  · have hp := rest_pos hS hs hn c
    rw [if_pos c, Int.add_mul, Int.mul_comm (qV A S ws i) S]
    refine ⟨by omega, by omega, by omega, ?_⟩
    intro h0
    rw [h0, Int.mul_zero] at hq
    exfalso
    have : 0 ≤ S * qV A S ws i := Int.mul_nonneg (by omega) q0
    omega
  · rw [if_neg c, Int.add_zero, Int.mul_comm (qV A S ws i) S]
    refine ⟨q0, by omega, by omega, ?_⟩
    intro h0
    rw [h0, Int.mul_zero] at hq
    have h1 : 0 ≤ S * qV A S ws i := Int.mul_nonneg (by omega) q0
    have h2 : S * qV A S ws i = 0 := by omega
    rcases Int.mul_eq_zero.1 h2 with x | x
    · omega
    · exact x
theorem pV_order {i k : Nat} (hA : 0 ≤ A) (hS : 0 < S) (hi : i < n) (hk : k < n) (hw : wt ws k < wt ws i) : pV A S ws n k ≤ pV A S ws n i := by
  have q1 := qr A S ws i
  have q2 := qr A S ws k
  have r1 := r_bd (A := A) (ws := ws) (i := i) hS
  have r2 := r_bd (A := A) (ws := ws) (i := k) hS
  have hq : qV A S ws k ≤ qV A S ws i := by
    unfold qV
    exact Int.ediv_le_ediv hS (Int.mul_le_mul_of_nonneg_left (by omega) hA)
  unfold pV
  by_cases hA0 : A = 0
  · have hl : (leftV A S ws n).toNat = 0 := by
      have : leftV A S ws n = 0 := by
        have hz : sumF (qV A S ws) n = sumF (fun _ => 0) n := sumF_congr (fun j _ => by unfold qV; rw [hA0]; simp)
        unfold leftV
        rw [hz, sumF_const, hA0]
        simp
      omega
    rw [hl, if_neg (by omega), if_neg (by omega)]
    omega
  · have hm : A * wt ws k < A * wt ws i := Int.mul_lt_mul_of_pos_left hw (by omega)
    by_cases he : qV A S ws k = qV A S ws i
    · have hr : rV A S ws k < rV A S ws i := by rw [he] at q2; omega
      have hrank : rank (keyV A S ws) n i < rank (keyV A S ws) n k := rank_mono hi hk (klt_of_lt (by unfold keyV; simp only [Int.toNat_natCast]; exact hr))
      rw [he]
      by_cases c : rank (keyV A S ws) n k < (leftV A S ws n).toNat
      · rw [if_pos c, if_pos (by omega)]; omega
      · rw [if_neg c]; split <;> omega
    · have h2 : qV A S ws k + 1 ≤ qV A S ws i := by omega
      split <;> split <;> omega
end
/-- All weights, some times as great: the same parts. -/
theorem pV_scale {A S c : Int} {ws us : List Int} {n i : Nat} (hc : 0 < c) (hu : ∀ j, wt us j = wt ws j * c) : pV A (S * c) us n i = pV A S ws n i := by
  have hq : ∀ j, qV A (S * c) us j = qV A S ws j := by
    intro j
    unfold qV
    rw [hu j, ← Int.mul_assoc]
    exact Int.mul_ediv_mul_of_pos_left _ _ hc
  have hr : ∀ j, rV A (S * c) us j = rV A S ws j * c := by
    intro j
    unfold rV
    rw [hu j, ← Int.mul_assoc, Int.mul_comm (A * wt ws j) c, Int.mul_comm S c, Int.mul_emod_mul_of_pos _ _ hc, Int.mul_comm]
  have hl : leftV A (S * c) us n = leftV A S ws n := by
    unfold leftV
    rw [sumF_congr (fun j _ => hq j)]
  have hk : rank (keyV A (S * c) us) n (i : Int) = rank (keyV A S ws) n (i : Int) := by
    unfold rank
    apply List.countP_congr
    intro j _
    unfold keyV
    rw [hr, hr]
    have a1 : rV A S ws (i : Int).toNat * c < rV A S ws (j : Int).toNat * c ↔ rV A S ws (i : Int).toNat < rV A S ws (j : Int).toNat := Int.mul_lt_mul_right hc
    have a2 : rV A S ws (j : Int).toNat * c = rV A S ws (i : Int).toNat * c ↔ rV A S ws (j : Int).toNat = rV A S ws (i : Int).toNat := Int.mul_eq_mul_right_iff (by omega)
    simp only [a1, a2]
  unfold pV
  rw [hq, hl, hk]
end Go.Proofs.Ytahpoikbnjhkgaa
