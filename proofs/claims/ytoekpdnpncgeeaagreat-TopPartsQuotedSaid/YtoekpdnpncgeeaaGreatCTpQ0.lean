/-
TopPartsQuoted: plain laws (a part's bill is at most the quote of the whole).
-/
import Derived.Test.YtoekpdnpncgeeaaGreatGLp
import Derived.Test.YtoekpdnpncgeeaaGreatGQuD
namespace Go.Proofs.YtoekpdnpncgeeaaGreat
open Go.RowKit
set_option linter.unusedVariables false
set_option linter.unusedSimpArgs false
theorem halfV_hi (x : Int) : 2000 * halfV x 1000 ≤ 2 * x + 1000 := by unfold halfV; omega
theorem halfV_lo (x : Int) : 2 * x - 999 ≤ 2000 * halfV x 1000 := by unfold halfV; omega
theorem halfV_mono {x y b : Int} (h : x ≤ y) (hb : 0 < b) : halfV x b ≤ halfV y b := by
  unfold halfV
  exact Int.ediv_le_ediv (by omega) (by omega)
/-- A stretch within a stretch has no more minutes of an article. -/
theorem cntN_tail (a : Art) (c : Cal) (f : Int) (k : Nat) : ∀ n : Nat, cntN a c (f + (k : Nat)) n ≤ cntN a c f (k + n)
  | 0 => Nat.zero_le _
  | n + 1 => by
    have h := cntN_tail a c f k n
    show cntN a c (f + (k : Nat)) n + (if appB a c (f + (k : Nat) + (n : Nat)) then 1 else 0) ≤ cntN a c f (k + n) + (if appB a c (f + ((k + n : Nat) : Nat)) then 1 else 0)
    rw [show f + (k : Nat) + (n : Nat) = f + ((k + n : Nat) : Nat) by omega]
    omega
theorem cntN_up (a : Art) (c : Cal) (f : Int) : ∀ {n m : Nat}, n ≤ m → cntN a c f n ≤ cntN a c f m := by
  intro n m h
  induction m with
  | zero => obtain rfl : n = 0 := by omega
            exact Nat.le_refl _
  | succ m ih =>
    rcases Nat.lt_or_ge m n with h1 | h1
    · obtain rfl : n = m + 1 := by omega
      exact Nat.le_refl _
    · exact Nat.le_trans (ih h1) (Nat.le_add_right _ _)
theorem cntN_sub (a : Art) (c : Cal) {F T f t : Int} (h1 : F ≤ f) (h2 : f ≤ t) (h3 : t ≤ T) : cntN a c f (t - f).toNat ≤ cntN a c F (T - F).toNat := by
  obtain ⟨k, hk⟩ : ∃ k : Nat, f = F + (k : Nat) := ⟨(f - F).toNat, by omega⟩
  subst hk
  exact Nat.le_trans (cntN_tail a c F k _) (cntN_up a c F (by omega))
/-- A minute of a stretch in which the article applies counts. -/
theorem cntN_pos (a : Art) (c : Cal) (F : Int) : ∀ (n : Nat) {m : Int}, F ≤ m → m < F + (n : Nat) → appB a c m = true → 0 < cntN a c F n
  | 0, m, h1, h2, h => by omega
  | n + 1, m, h1, h2, h => by
    show 0 < cntN a c F n + (if appB a c (F + (n : Nat)) then 1 else 0)
    by_cases he : m = F + (n : Nat)
    · rw [← he, h]; simp
    · have := cntN_pos a c F n (m := m) h1 (by omega) h
      omega
theorem startN_mono {p q q' r : Int} (hp : 0 ≤ p) (hq : q ≤ q') (hr : 0 < r) : startN p q r ≤ startN p q' r := by
  unfold startN
  exact Int.mul_le_mul_of_nonneg_left (Int.ediv_le_ediv hr (by omega)) hp
/-- Prices times energies of the articles of energy. -/
def eAll (c : Cal) (sl : List Slc) : List Art → Int
  | [] => 0
  | a :: l => (if a.kind = 2 then a.price * enS a c sl else 0) + eAll c sl l
def hAll (c : Cal) (sl : List Slc) : List Art → Int
  | [] => 0
  | a :: l => (if a.kind = 2 then halfV (a.price * enS a c sl) 1000 else 0) + hAll c sl l
def kAll (c : Cal) (sl : List Slc) : List Art → Int
  | [] => 0
  | a :: l => (if a.kind = 2 ∧ 0 < enS a c sl then 1 else 0) + kAll c sl l
theorem eAll_nil (c : Cal) : ∀ l, eAll c [] l = 0
  | [] => rfl
  | a :: l => by
    unfold eAll
    rw [eAll_nil c l]
    simp [enS]
theorem eAll_cons (c : Cal) (x : Slc) (r : List Slc) : ∀ l, eAll c (x :: r) l = x.en * inQ 2 c x.mn l + eAll c r l
  | [] => by simp [eAll, inQ]
  | a :: l => by
    unfold eAll inQ
    rw [eAll_cons c x r l]
    have e : enS a c (x :: r) = (if appB a c x.mn then x.en else 0) + enS a c r := rfl
    rw [e]
    by_cases h2 : a.kind = 2
    · cases hb : appB a c x.mn
      · simp [h2]
        generalize x.en * inQ 2 c x.mn l = z
        omega
      · simp [h2]
        rw [Int.mul_add, Int.mul_add, Int.mul_comm x.en a.price]
        generalize a.price * x.en = z1
        generalize x.en * inQ 2 c x.mn l = z2
        omega
    · simp [h2]
theorem eAll_le (c : Cal) (G : Int) (l : List Art) : ∀ sl : List Slc, (∀ x ∈ sl, 0 ≤ x.en ∧ inQ 2 c x.mn l ≤ G) → eAll c sl l ≤ G * (sl.map (fun x => x.en)).sum
  | [], _ => by rw [eAll_nil]; simp
  | x :: r, h => by
    have h1 := h x (List.mem_cons_self ..)
    have h2 := eAll_le c G l r (fun y hy => h y (List.mem_cons_of_mem _ hy))
    rw [eAll_cons, List.map_cons, List.sum_cons, Int.mul_add]
    have h3 : x.en * inQ 2 c x.mn l ≤ x.en * G := Int.mul_le_mul_of_nonneg_left h1.2 h1.1
    rw [Int.mul_comm x.en G] at h3
    omega
theorem enS_nn (a : Art) (c : Cal) : ∀ sl : List Slc, (∀ x ∈ sl, 0 ≤ x.en) → 0 ≤ enS a c sl
  | [], _ => Int.le_refl 0
  | x :: r, h => by
    have h1 := h x (List.mem_cons_self ..)
    have h2 := enS_nn a c r (fun y hy => h y (List.mem_cons_of_mem _ hy))
    unfold enS
    split <;> omega
theorem hAll_le (c : Cal) (sl : List Slc) (hs : ∀ x ∈ sl, 0 ≤ x.en) : ∀ l : List Art, 0 ≤ kAll c sl l ∧ 2000 * hAll c sl l ≤ 2 * eAll c sl l + 1000 * kAll c sl l ∧ (kAll c sl l = 0 → hAll c sl l = 0)
  | [] => by simp [hAll, eAll, kAll]
  | a :: l => by
    have ih := hAll_le c sl hs l
    have he := enS_nn a c sl hs
    unfold hAll eAll kAll
    by_cases h2 : a.kind = 2
    · rw [if_pos h2, if_pos h2]
      by_cases hp : 0 < enS a c sl
      · rw [if_pos ⟨h2, hp⟩]
        have := halfV_hi (a.price * enS a c sl)
        generalize a.price * enS a c sl = z at *
        generalize halfV z 1000 = y at *
        omega
      · rw [if_neg (fun h => hp h.2)]
        have e0 : enS a c sl = 0 := by omega
        rw [e0, Int.mul_zero, show halfV 0 1000 = 0 from rfl]
        omega
    · rw [if_neg h2, if_neg h2, if_neg (fun h => h2 h.1)]
      omega
theorem enS_pos {a : Art} {c : Cal} : ∀ {sl : List Slc}, 0 < enS a c sl → ∃ x ∈ sl, appB a c x.mn = true
  | [], h => by exact absurd h (by simp [enS])
  | x :: r, h => by
    cases hb : appB a c x.mn with
    | true => exact ⟨x, List.mem_cons_self .., hb⟩
    | false =>
      unfold enS at h
      rw [hb] at h
      simp at h
      obtain ⟨y, hy, h2⟩ := enS_pos h
      exact ⟨y, List.mem_cons_of_mem _ hy, h2⟩
theorem kAll_le (c : Cal) {F T : Int} (sl : List Slc) (hs : ∀ x ∈ sl, F ≤ x.mn ∧ x.mn < T) : ∀ l : List Art, kAll c sl l ≤ ceQ c F T l
  | [] => Int.le_refl 0
  | a :: l => by
    have ih := kAll_le c sl hs l
    unfold kAll ceQ
    by_cases h2 : a.kind = 2 ∧ 0 < enS a c sl
    · obtain ⟨x, hx, hb⟩ := enS_pos h2.2
      have h3 := hs x hx
      have h4 := cntN_pos a c F (T - F).toNat (m := x.mn) h3.1 (by omega) hb
      rw [if_pos h2, if_pos ⟨h2.1, h4⟩]
      omega
    · rw [if_neg h2]
      split <;> omega
theorem eAll_mono (c : Cal) (G : Int) (hG : 0 ≤ G) (l : List Art) {sl : List Slc} {E : Int} (h : ∀ x ∈ sl, 0 ≤ x.en ∧ inQ 2 c x.mn l ≤ G) (hE : (sl.map (fun x => x.en)).sum ≤ E) : eAll c sl l ≤ G * E :=
  Int.le_trans (eAll_le c G l sl h) (Int.mul_le_mul_of_nonneg_left hE hG)
theorem enS_le (a : Art) (c : Cal) : ∀ sl : List Slc, (∀ x ∈ sl, 0 ≤ x.en) → enS a c sl ≤ (sl.map (fun x => x.en)).sum
  | [], _ => Int.le_refl 0
  | x :: r, h => by
    have h1 := h x (List.mem_cons_self ..)
    have h2 := enS_le a c r (fun y hy => h y (List.mem_cons_of_mem _ hy))
    rw [List.map_cons, List.sum_cons]
    unfold enS
    split <;> omega
theorem kAll_zero (c : Cal) (sl : List Slc) (hs : ∀ x ∈ sl, 0 ≤ x.en) (h0 : (sl.map (fun x => x.en)).sum ≤ 0) : ∀ l : List Art, kAll c sl l = 0
  | [] => rfl
  | a :: l => by
    have h1 := enS_le a c sl hs
    unfold kAll
    rw [if_neg (fun h => by have := h.2; omega), kAll_zero c sl hs h0 l]
    rfl
/-- The energies of a part cost no more than the quote's energy. -/
theorem energy_le (c : Cal) {F T E v : Int} {l : List Art} {sl : List Slc} (hG : 0 ≤ gq 2 c F T l) (h : ∀ x ∈ sl, 0 ≤ x.en ∧ inQ 2 c x.mn l ≤ gq 2 c F T l) (hs : ∀ x ∈ sl, F ≤ x.mn ∧ x.mn < T) (hE : (sl.map (fun x => x.en)).sum ≤ E) (hq : enQ c F T l E = some v) : hAll c sl l ≤ v := by
  have h1 := hAll_le c sl (fun x hx => (h x hx).1) l
  have h2 := kAll_le c sl hs l
  have h3 := eAll_mono c _ hG l h hE
  have h4 := ceQ_bd c F T l
  unfold enQ at hq
  split at hq
  · rename_i h0
    injection hq with hq
    subst h0 hq
    rw [Int.mul_zero] at h3
    rw [h1.2.2 (kAll_zero c sl (fun x hx => (h x hx).1) hE l)]
    exact Int.le_refl _
  · split at hq
    · rename_i hte
      split at hq
      · cases hq
      · injection hq with hq
        unfold timesE at hte
        unfold timesV at hq
        split at hte
        · rename_i ht
          rw [if_pos ht] at hq
          unfold fitE at hte
          unfold fitV at hq
          split at hte
          · rename_i hf
            rw [if_pos hf] at hq
            have h5 := halfV_lo (gq 2 c F T l * E)
            generalize gq 2 c F T l * E = z at *
            generalize halfV z 1000 = y at *
            omega
          · cases hte
        · cases hte
    · cases hq
theorem amB_iff {n a b : Int} : amB n a b = true ↔ a ≤ n ∧ n ≤ b := by unfold amB; exact decide_eq_true_iff
/-- A stretch of the part costs no more than the whole one. -/
theorem stretch_le (a : Art) (c : Cal) {F T f t : Int} (h1 : F ≤ f) (h2 : f ≤ t) (h3 : t ≤ T) (hE : startE a.price (max 0 ((cntN a c F (T - F).toNat : Int) - a.free)) a.unit = 0) :
    ∃ n, stretchO a c f t = some n ∧ 0 ≤ n ∧ n ≤ startV a.price (max 0 ((cntN a c F (T - F).toNat : Int) - a.free)) a.unit := by
  have hc := cntN_sub a c h1 h2 h3
  obtain ⟨q, hq⟩ : ∃ q, q = max 0 ((cntN a c F (T - F).toNat : Int) - a.free) := ⟨_, rfl⟩
  obtain ⟨q', hq'⟩ : ∃ q', q' = max 0 ((cntN a c f (t - f).toNat : Int) - a.free) := ⟨_, rfl⟩
  have hqq : q' ≤ q ∧ 0 ≤ q' := by omega
  rw [← hq] at hE ⊢
  unfold stretchO
  rw [← hq']
  clear hq hq'
  unfold startE at hE
  split at hE
  · rename_i ht
    have ht0 := ht
    unfold tOk at ht0
    simp only [Bool.and_eq_true, amB_iff] at ht0
    unfold fitE at hE
    split at hE
    · rename_i hf
      rw [amB_iff] at hf
      have hm := startN_mono (p := a.price) (r := a.unit) ht0.1.1.1 hqq.1 (by omega)
      have hn : 0 ≤ startN a.price q' a.unit := by
        unfold startN
        exact Int.mul_nonneg ht0.1.1.1 (Int.ediv_nonneg (by omega) (by omega))
      have ht' : tOk a.price q' a.unit = true := by
        unfold tOk
        simp only [Bool.and_eq_true, amB_iff]
        omega
      have hf' : amB (startN a.price q' a.unit) 0 1000000000 = true := amB_iff.2 ⟨hn, by omega⟩
      refine ⟨startV a.price q' a.unit, ?_, ?_, ?_⟩
      · unfold startE fitE
        rw [if_pos ht', if_pos hf', if_pos rfl]
      · unfold startV fitV
        rw [if_pos ht', if_pos hf']
        exact hn
      · unfold startV fitV
        rw [if_pos ht', if_pos hf', if_pos ht, if_pos (amB_iff.2 hf)]
        exact hm
    · cases hE
  · cases hE
def mAll (c : Cal) (p : Ses) : List Art → Int
  | [] => 0
  | a :: l => (if a.kind = 3 ∨ a.kind = 4 then (lineO a c p).getD 0 else 0) + mAll c p l
theorem minutes_le (c : Cal) {F T : Int} (p : Ses) (h1 : F ≤ p.frm) (h2 : p.frm ≤ p.fin) (h3 : p.fin ≤ p.till) (h4 : p.till ≤ T) : ∀ {l : List Art} {z v : Int}, tmQ c F T l z = some v → z + mAll c p l ≤ v ∧ ∀ a ∈ l, (a.kind = 3 ∨ a.kind = 4) → ∃ n, lineO a c p = some n ∧ 0 ≤ n
  | [], z, v, h => by
    unfold tmQ at h
    split at h
    · cases h
    · injection h with h
      subst h
      exact ⟨by unfold mAll; omega, fun a ha => by cases ha⟩
  | a :: l, z, v, h => by
    unfold tmQ at h
    unfold mAll
    split at h
    · rename_i hk
      split at h
      · rename_i hE
        obtain ⟨n, hn, hn0, hnle⟩ : ∃ n, lineO a c p = some n ∧ 0 ≤ n ∧ n ≤ startV a.price (max 0 ((cntN a c F (T - F).toNat : Int) - a.free)) a.unit := by
          unfold lineO
          rcases hk with hk | hk
          · rw [if_neg (by omega), if_neg (by omega), if_pos hk]
            exact stretch_le a c h1 (by omega) h4 hE
          · rw [if_neg (by omega), if_neg (by omega), if_neg (by omega), if_pos hk]
            exact stretch_le a c (by omega) h3 h4 hE
        obtain ⟨g1, g2⟩ := minutes_le c p h1 h2 h3 h4 h
        rw [if_pos hk, hn]
        refine ⟨?_, fun b hb hkb => ?_⟩
        · show z + (n + mAll c p l) ≤ v
          omega
        · rcases List.mem_cons.1 hb with rfl | hb
          · exact ⟨n, hn, hn0⟩
          · exact g2 b hb hkb
      · cases h
    · rename_i hk
      obtain ⟨g1, g2⟩ := minutes_le c p h1 h2 h3 h4 h
      rw [if_neg hk]
      refine ⟨by omega, fun b hb hkb => ?_⟩
      rcases List.mem_cons.1 hb with rfl | hb
      · exact absurd hkb hk
      · exact g2 b hb hkb
theorem grL_ge {g : Nat → Int} : ∀ {l : List Nat} {i : Nat}, i ∈ l → g i ≤ grL g l := by
  have key : ∀ (l : List Nat) (z : Int), z ≤ l.foldl (fun z i => max z (g i)) z ∧ ∀ i ∈ l, g i ≤ l.foldl (fun z i => max z (g i)) z := by
    intro l
    induction l with
    | nil => exact fun z => ⟨Int.le_refl z, fun i hi => by cases hi⟩
    | cons x r ih =>
      intro z
      obtain ⟨h1, h2⟩ := ih (max z (g x))
      refine ⟨by simp only [List.foldl_cons]; omega, fun i hi => ?_⟩
      simp only [List.foldl_cons]
      rcases List.mem_cons.1 hi with rfl | hi
      · omega
      · exact h2 i hi
  intro l i hi
  exact (key l 0).2 i hi
theorem gq_ge (k : Int) (c : Cal) {F T m : Int} (l : List Art) (h1 : F ≤ m) (h2 : m < T) : inQ k c m l ≤ gq k c F T l := by
  have h := grL_ge (g := fun i => inQ k c (F + (i : Nat)) l) (l := List.range (T - F).toNat) (i := (m - F).toNat) (List.mem_range.2 (by omega))
  have e : F + (((m - F).toNat : Nat) : Int) = m := by omega
  rw [e] at h
  exact h
/-- An article of energy: its line. -/
theorem energy_line {a : Art} {c : Cal} {p : Ses} (ha : artB a = true) (h2 : a.kind = 2) (h0 : 0 ≤ enS a c p.sl) (h1 : enS a c p.sl ≤ 480000) : lineO a c p = some (halfV (a.price * enS a c p.sl) 1000) := by
  have hp := art_price ha
  have hm : a.price * enS a c p.sl ≤ 1000000 * 480000 := Int.mul_le_mul hp.2 h1 h0 (by omega)
  have hm0 : 0 ≤ a.price * enS a c p.sl := Int.mul_nonneg hp.1 h0
  have ht : tOk a.price (enS a c p.sl) 1000 = true := by
    unfold tOk
    simp only [Bool.and_eq_true, amB_iff]
    omega
  have hf : amB (halfV (a.price * enS a c p.sl) 1000) 0 1000000000 = true := by
    rw [amB_iff]
    unfold halfV
    omega
  unfold lineO
  rw [if_neg (by omega), if_pos h2]
  unfold timesE timesV fitE fitV
  rw [if_pos ht, if_pos hf, if_pos rfl, if_pos ht, if_pos hf]
/-- All lines of a bill. -/
def nAll (c : Cal) (p : Ses) : List Art → Int
  | [] => 0
  | a :: l => (if a.kind = 5 ∨ a.kind = 6 then 0 else (lineO a c p).getD 0) + nAll c p l
theorem nAll_parts (c : Cal) (p : Ses) (h0 : ∀ x ∈ p.sl, 0 ≤ x.en) (hE : (p.sl.map (fun x => x.en)).sum ≤ 480000) : ∀ l : List Art, (∀ a ∈ l, artB a = true) → nAll c p l = inQ 1 c p.frm l + hAll c p.sl l + mAll c p l
  | [], _ => rfl
  | a :: l, h => by
    have ih := nAll_parts c p h0 hE l (fun b hb => h b (List.mem_cons_of_mem _ hb))
    have ha := h a (List.mem_cons_self ..)
    have e0 := enS_nn a c p.sl h0
    have e1 := enS_le a c p.sl h0
    have hk : 1 ≤ a.kind ∧ a.kind ≤ 6 := by
      have := ha
      unfold artB at this
      simp only [Bool.and_eq_true, amB_iff] at this
      exact this.1
    unfold nAll inQ hAll mAll
    rw [ih]
    by_cases k1 : a.kind = 1
    · have hl : lineO a c p = some (if appB a c p.frm then a.price else 0) := by unfold lineO; rw [if_pos k1]
      rw [hl, if_neg (show ¬ (a.kind = 5 ∨ a.kind = 6) by omega), if_neg (show ¬ a.kind = 2 by omega), if_neg (show ¬ (a.kind = 3 ∨ a.kind = 4) by omega)]
      cases hb : appB a c p.frm <;> simp [k1] <;> omega
    · by_cases k2 : a.kind = 2
      · rw [energy_line ha k2 e0 (by omega), if_neg (show ¬ (a.kind = 5 ∨ a.kind = 6) by omega), if_neg (show ¬ (a.kind = 1 ∧ appB a c p.frm = true) from fun h => k1 h.1), if_pos k2, if_neg (show ¬ (a.kind = 3 ∨ a.kind = 4) by omega)]
        simp only [Option.getD_some]
        omega
      · by_cases k3 : a.kind = 3 ∨ a.kind = 4
        · rw [if_neg (show ¬ (a.kind = 5 ∨ a.kind = 6) by omega), if_neg (show ¬ (a.kind = 1 ∧ appB a c p.frm = true) from fun h => k1 h.1), if_neg (show ¬ a.kind = 2 by omega), if_pos k3]
          omega
        · rw [if_pos (show a.kind = 5 ∨ a.kind = 6 by omega), if_neg (show ¬ (a.kind = 1 ∧ appB a c p.frm = true) from fun h => k1 h.1), if_neg (show ¬ a.kind = 2 by omega), if_neg (show ¬ (a.kind = 3 ∨ a.kind = 4) by omega)]
          omega
theorem runB_sum (c : Cal) (p : Ses) : ∀ (l : List Art) (i : Nat) (b : BS), (∀ a ∈ l, ¬ (a.kind = 5 ∨ a.kind = 6) → ∃ n, lineO a c p = some n) → ∃ b', runB c p i l b = some b' ∧ b'.net = b.net + nAll c p l
  | [], i, b, _ => ⟨b, rfl, by unfold nAll; omega⟩
  | a :: l, i, b, h => by
    have hr := fun i b => runB_sum c p l i b (fun x hx => h x (List.mem_cons_of_mem _ hx))
    unfold runB nAll
    by_cases h5 : a.kind = 5
    · obtain ⟨b', g1, g2⟩ := hr (i + 1) { b with most := if b.most < 0 ∨ a.price < b.most then a.price else b.most }
      refine ⟨b', ?_, ?_⟩
      · unfold stepB
        rw [if_pos h5]
        exact g1
      · rw [g2, if_pos (Or.inl h5)]
        show b.net + nAll c p l = _
        omega
    · by_cases h6 : a.kind = 6
      · obtain ⟨b', g1, g2⟩ := hr (i + 1) { b with rate := a.price }
        refine ⟨b', ?_, ?_⟩
        · unfold stepB
          rw [if_neg h5, if_pos h6]
          exact g1
        · rw [g2, if_pos (Or.inr h6)]
          show b.net + nAll c p l = _
          omega
      · obtain ⟨n, hn⟩ := h a (List.mem_cons_self ..) (fun hh => hh.elim h5 h6)
        obtain ⟨b', g1, g2⟩ := hr (i + 1) { b with lines := b.lines ++ [((i : Int), n)], net := b.net + n }
        refine ⟨b', ?_, ?_⟩
        · unfold stepB
          rw [if_neg h5, if_neg h6, hn]
          exact g1
        · rw [g2, if_neg (fun hh => hh.elim h5 h6), hn]
          show b.net + n + nAll c p l = b.net + (n + nAll c p l)
          omega
theorem capQ_ge {x : Int} : ∀ {l : List Art} {z : Int}, x ≤ z → (∀ a ∈ l, a.kind = 5 → x ≤ a.price) → x ≤ capQ z l
  | [], z, h, _ => h
  | a :: l, z, h, hc => by
    unfold capQ
    refine capQ_ge ?_ (fun b hb => hc b (List.mem_cons_of_mem _ hb))
    split
    · rename_i h5
      have := hc a (List.mem_cons_self ..) h5
      omega
    · exact h
theorem netV_le (b : BS) : netV b ≤ b.net := by unfold netV; split <;> omega
/-- The tax is monotone. -/
theorem tax_mono {x y r : Int} (h0 : 0 ≤ x) (h : x ≤ y) (hy : taxE y r = 0) : taxE x r = 0 ∧ taxV x r ≤ taxV y r := by
  unfold taxE at hy
  split at hy
  · rename_i ht
    have ht0 := ht
    unfold xOk at ht0
    simp only [Bool.and_eq_true, amB_iff] at ht0
    unfold fitE at hy
    split at hy
    · rename_i hf
      rw [amB_iff] at hf
      have hm : x * r ≤ y * r := Int.mul_le_mul_of_nonneg_right h ht0.2.1
      have hm0 : 0 ≤ x * r := Int.mul_nonneg h0 ht0.2.1
      have hh := halfV_mono (b := 10000) hm (by omega)
      have hx : xOk x r = true := by
        unfold xOk
        simp only [Bool.and_eq_true, amB_iff]
        omega
      have hf' : amB (halfV (x * r) 10000) 0 1000000000 = true := by
        rw [amB_iff]
        refine ⟨?_, by omega⟩
        unfold halfV
        omega
      unfold taxE taxV fitE fitV
      rw [if_pos hx, if_pos hf', if_pos hx, if_pos hf', if_pos ht, if_pos (amB_iff.2 hf)]
      exact ⟨rfl, hh⟩
    · cases hy
  · cases hy
theorem inQ_nn (k : Int) (c : Cal) (m : Int) (l : List Art) (h : ∀ a ∈ l, artB a = true) : 0 ≤ inQ k c m l := by
  induction l with
  | nil => exact Int.le_refl 0
  | cons a l ih =>
    have h1 := ih (fun b hb => h b (List.mem_cons_of_mem _ hb))
    have h2 := art_price (h a (List.mem_cons_self ..))
    unfold inQ
    split <;> omega
/-- A part's bill is at most the quote of the whole. -/
theorem bill_quote {nm : ByteArray} {ar : List Art} {c : Cal} {F T E : Int} {p : Ses} (hc : calB c = true) (hq : (quoR nm ar c F T E).2 = 0) (hl : limQ F T E = true) (hp : sesB p = true) (h1 : F ≤ p.frm) (h2 : p.frm ≤ p.fin) (h2' : p.frm < p.till) (h3 : p.fin ≤ p.till) (h4 : p.till ≤ T) (hs : ∀ x ∈ p.sl, 0 ≤ x.en ∧ F ≤ x.mn ∧ x.mn < T) (hE : (p.sl.map (fun x => x.en)).sum ≤ E) :
    billE nm ar c p = 0 ∧ (billV nm ar c p).total ≤ (quoR nm ar c F T E).1 := by
  unfold quoR at hq ⊢
  split at hq
  · rename_i hok
    rw [if_pos hok]
    have ht : trfB nm ar = true := by
      simp only [Bool.and_eq_true] at hok
      exact hok.1
    have hA := (trfB_iff ht).2.1
    have hlen := (trfB_iff ht).1
    cases hsu : suQ c F T ar E with
    | none => rw [hsu] at hq; cases hq
    | some v =>
      rw [hsu] at hq
      dsimp only at hq ⊢
      have hEb := (limQ_iff hl).2.2.2.2
      unfold suQ at hsu
      obtain ⟨v0, he, htm⟩ := Option.bind_eq_some_iff.1 hsu
      have hen := energy_le c (F := F) (T := T) (E := E) (v := v0) (l := ar) (sl := p.sl) (gq_bd 2 c F T hlen hA).1 (fun x hx => ⟨(hs x hx).1, gq_ge 2 c ar (hs x hx).2.1 (hs x hx).2.2⟩) (fun x hx => (hs x hx).2) hE he
      obtain ⟨hmi, hml⟩ := minutes_le c p h1 h2 h3 h4 htm
      have hst := gq_ge 1 c (F := F) (T := T) (m := p.frm) ar h1 (by omega)
      have hna := nAll_parts c p (fun x hx => (hs x hx).1) (by omega) ar hA
      have hnv : nAll c p ar ≤ v := by omega
      have hsome : ∀ a ∈ ar, ¬ (a.kind = 5 ∨ a.kind = 6) → ∃ n, lineO a c p = some n := fun a ha hk => by
        have hka : 1 ≤ a.kind ∧ a.kind ≤ 6 := by
          have := hA a ha
          unfold artB at this
          simp only [Bool.and_eq_true, amB_iff] at this
          exact this.1
        by_cases k1 : a.kind = 1
        · exact ⟨_, by unfold lineO; rw [if_pos k1]⟩
        · by_cases k2 : a.kind = 2
          · have e0 := enS_nn a c p.sl (fun x hx => (hs x hx).1)
            have e1 := enS_le a c p.sl (fun x hx => (hs x hx).1)
            exact ⟨_, energy_line (hA a ha) k2 e0 (by omega)⟩
          · obtain ⟨n, hn, _⟩ := hml a ha (by omega)
            exact ⟨n, hn⟩
      obtain ⟨b', hr, hnet⟩ := runB_sum c p ar 0 ⟨[], 0, 0, -1⟩ hsome
      have hnet0 := runB_net ar 0 _ b' hA (Int.le_refl _) (.inl rfl) hr
      have hmost := (runB_most ar 0 _ b' hA (.inl rfl) hr).2
      have hrate : b'.rate = rateF 0 ar := runB_rate ar 0 _ b' hr
      have hnet' : b'.net = nAll c p ar := by
        have : b'.net = 0 + nAll c p ar := hnet
        omega
      have hx : netV b' ≤ capQ v ar := capQ_ge (by have := netV_le b'; omega) (fun a ha h5 => by
        have := hmost a ha h5
        unfold netV
        rw [if_pos this.1]
        omega)
      have hnn : 0 ≤ netV b' := by
        unfold netV
        split <;> omega
      unfold finQ at hq ⊢
      split at hq
      · rename_i hfin
        rw [if_pos hfin]
        have htx := tax_mono hnn hx hfin.1
        have hend : endB b' = some ⟨b'.lines, netV b', taxV (netV b') b'.rate, netV b' + taxV (netV b') b'.rate⟩ := by
          unfold endB
          rw [if_pos (by rw [hrate]; exact ⟨htx.1, by omega⟩)]
        have hsum : sumO ar c p = some ⟨b'.lines, netV b', taxV (netV b') b'.rate, netV b' + taxV (netV b') b'.rate⟩ := by
          unfold sumO
          rw [hr]
          exact hend
        have hv : (trfB nm ar && (calB c && sesB p)) = true := by rw [ht, hc, hp]; rfl
        unfold billE billV billO
        rw [if_pos hv, if_pos hv, hsum]
        refine ⟨rfl, ?_⟩
        show netV b' + taxV (netV b') b'.rate ≤ capQ v ar + taxV (capQ v ar) (rateF 0 ar)
        rw [hrate]
        omega
      · cases hq
  · cases hq
end Go.Proofs.YtoekpdnpncgeeaaGreat
