/-
TopPartsQuoted: the parts of a session are sessions (plain).
-/
import Derived.Test.YtoekpdnpncgeeaaGreatCTpQ0
import Derived.Test.YtoekpdnpncgeeaaGreatCLpS
namespace Go.Proofs.YtoekpdnpncgeeaaGreat
set_option linter.unusedVariables false
theorem slB_part {fin f t : Int} : ∀ (l : List Slc) (b b' : Int), slB fin b l = true → (b' ≤ b ∨ b' ≤ f - 1) → slB (min (max fin f) t) b' (inL f t l) = true
  | [], b, b', _, _ => rfl
  | x :: r, b, b', h, hb => by
    unfold slB at h
    simp only [Bool.and_eq_true, decide_eq_true_eq] at h
    unfold inL
    rw [List.filter_cons]
    by_cases hx : f ≤ x.mn ∧ x.mn < t
    · rw [if_pos (by simpa using hx)]
      have ih := slB_part (fin := fin) (f := f) (t := t) r x.mn x.mn h.2.2.2.2 (.inl (Int.le_refl _))
      unfold inL at ih
      unfold slB
      simp only [Bool.and_eq_true, decide_eq_true_eq]
      exact ⟨by omega, by omega, h.2.2.1, h.2.2.2.1, ih⟩
    · rw [if_neg (by simpa using hx)]
      exact slB_part r x.mn b' h.2.2.2.2 (by omega)
/-- A part of a session is a session. -/
theorem sesB_part {s : Ses} {f t : Int} (h : sesB s = true) (h1 : s.frm ≤ f) (h2 : f < t) (h3 : t ≤ s.till) : sesB (partS s f t) = true := by
  unfold sesB at h ⊢
  simp only [Bool.and_eq_true, decide_eq_true_eq] at h ⊢
  have hl : (partS s f t).sl.length ≤ s.sl.length := List.length_filter_le _ _
  have hs : slB (partS s f t).fin ((partS s f t).frm - 1) (partS s f t).sl = true := slB_part s.sl (s.frm - 1) (f - 1) h.2.2.2.2.2.2.2 (.inr (Int.le_refl _))
  refine ⟨?_, ?_, ?_, ?_, ?_, ?_, by omega, hs⟩
  · show 0 ≤ f; omega
  · show f < t; omega
  · show t - f ≤ 2880; omega
  · show t ≤ 52560000; omega
  · show f ≤ min (max s.fin f) t; omega
  · show min (max s.fin f) t ≤ t; omega
/-- What a session's slices draw (as the law adds it up). -/
def enL : List Slc → Int
  | [] => 0
  | x :: r => min 20000 (max (-1) x.en) + enL r
theorem slB_all {fin : Int} : ∀ {l : List Slc} {b : Int}, slB fin b l = true → ∀ x ∈ l, b < x.mn ∧ x.mn < fin ∧ 0 ≤ x.en ∧ x.en ≤ 10000
  | [], b, _, x, hx => by cases hx
  | y :: r, b, h, x, hx => by
    unfold slB at h
    simp only [Bool.and_eq_true, decide_eq_true_eq] at h
    rcases List.mem_cons.1 hx with rfl | hx
    · exact ⟨h.1, h.2.1, h.2.2.1, h.2.2.2.1⟩
    · have := slB_all h.2.2.2.2 x hx
      omega
theorem enL_eq : ∀ {l : List Slc}, (∀ x ∈ l, 0 ≤ x.en ∧ x.en ≤ 10000) → enL l = (l.map (fun x => x.en)).sum
  | [], _ => rfl
  | y :: r, h => by
    have h1 := h y (List.mem_cons_self ..)
    have h2 := enL_eq (l := r) (fun x hx => h x (List.mem_cons_of_mem _ hx))
    unfold enL
    rw [List.map_cons, List.sum_cons, h2]
    omega
theorem sum_sub {l m : List Slc} (h : l.Sublist m) (h0 : ∀ x ∈ m, 0 ≤ x.en) : (l.map (fun x => x.en)).sum ≤ (m.map (fun x => x.en)).sum := by
  induction h with
  | slnil => exact Int.le_refl _
  | cons a hs ih =>
    have h1 := ih (fun x hx => h0 x (List.mem_cons_of_mem _ hx))
    have h2 := h0 a (List.mem_cons_self ..)
    rw [List.map_cons, List.sum_cons]
    omega
  | cons_cons a hs ih =>
    have h1 := ih (fun x hx => h0 x (List.mem_cons_of_mem _ hx))
    rw [List.map_cons, List.sum_cons, List.map_cons, List.sum_cons]
    omega
theorem enL_bd : ∀ (l : List Slc), -(l.length : Int) ≤ enL l ∧ enL l ≤ 20000 * (l.length : Int)
  | [] => by simp [enL]
  | y :: r => by
    have := enL_bd r
    unfold enL
    rw [List.length_cons]
    omega
theorem enL_take {l : List Slc} {k : Nat} {x : Slc} (h : l[k]? = some x) : enL (l.take (k + 1)) = enL (l.take k) + min 20000 (max (-1) x.en) := by
  induction l generalizing k with
  | nil => cases h
  | cons y r ih =>
    cases k with
    | zero =>
      have h' : y = x := by simpa using h
      subst h'
      simp [enL]
    | succ k =>
      have := ih (k := k) (by simpa using h)
      simp only [List.take_succ_cons, enL]
      rw [this]
      omega
/-- A part of a whole session: within it, with some of its slices. -/
structure PartOf (s p : Ses) : Prop where
  ok : sesB p = true
  frm : s.frm ≤ p.frm
  till : p.till ≤ s.till
  sub : p.sl.Sublist s.sl
theorem PartOf.whole {s : Ses} (h : sesB s = true) : PartOf s s := ⟨h, Int.le_refl _, Int.le_refl _, List.Sublist.refl _⟩
theorem PartOf.split {s p : Ses} (h : PartOf s p) {m : Int} (hm : spB p m = true) : PartOf s (partS p p.frm m) ∧ PartOf s (partS p m p.till) := by
  unfold spB at hm
  simp only [Bool.and_eq_true, decide_eq_true_eq] at hm
  have hf := h.frm
  have ht := h.till
  exact ⟨⟨sesB_part h.ok (Int.le_refl _) hm.2.1 (by omega), hf, by show m ≤ s.till; omega, List.Sublist.trans List.filter_sublist h.sub⟩, ⟨sesB_part h.ok (by omega) hm.2.2 (Int.le_refl _), by show s.frm ≤ m; omega, ht, List.Sublist.trans List.filter_sublist h.sub⟩⟩
/-- The bill of a part is at most the quote. -/
theorem part_quoted {nm : ByteArray} {ar : List Art} {c : Cal} {s p : Ses} (hs : sesB s = true) (hq : (quoR nm ar c s.frm s.till (enL s.sl)).2 = 0) (hp : PartOf s p) :
    billE nm ar c p = 0 ∧ (billV nm ar c p).total ≤ (quoR nm ar c s.frm s.till (enL s.sl)).1 := by
  have hcl : calB c = true ∧ limQ s.frm s.till (enL s.sl) = true := by
    unfold quoR at hq
    split at hq
    · rename_i h
      simp only [Bool.and_eq_true] at h
      exact h.2
    · cases hq
  have hss := hs
  unfold sesB at hss
  simp only [Bool.and_eq_true, decide_eq_true_eq] at hss
  have hall := slB_all hss.2.2.2.2.2.2.2
  have hps := hp.ok
  unfold sesB at hps
  simp only [Bool.and_eq_true, decide_eq_true_eq] at hps
  have hE : enL s.sl = (s.sl.map (fun x => x.en)).sum := enL_eq (fun x hx => ⟨(hall x hx).2.2.1, (hall x hx).2.2.2⟩)
  refine bill_quote hcl.1 hq hcl.2 hp.ok hp.frm hps.2.2.2.2.1 hps.2.1 hps.2.2.2.2.2.1 hp.till (fun x hx => ?_) ?_
  · have := hall x (hp.sub.subset hx)
    omega
  · rw [hE]
    exact sum_sub hp.sub (fun x hx => (hall x hx).2.2.1)
end Go.Proofs.YtoekpdnpncgeeaaGreat
