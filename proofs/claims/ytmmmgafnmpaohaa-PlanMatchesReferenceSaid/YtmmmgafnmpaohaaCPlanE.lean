/-
Plain: sums over a list that increases are sums over the places that it names; what CheckCut reckons.
-/
import Derived.Test.YtmmmgafnmpaohaaCPlanC
namespace Go.Proofs.Ytmmmgafnmpaohaa
set_option linter.unusedVariables false
theorem good_lt {xs : List Int} {N : Int} {k : Nat} (h : goodTo xs N k) : ∀ i j, i < j → j < k → fAt xs i < fAt xs j := by
  intro i j
  induction j with
  | zero => omega
  | succ j ih =>
    intro hij hj
    have h1 : fAt xs j < fAt xs (j + 1) := (h (j + 1) hj).1
    by_cases e : i = j
    · subst e; exact h1
    · have := ih (by omega) (by omega); omega
theorem good_ge {xs : List Int} {N : Int} {k : Nat} (h : goodTo xs N k) {i : Nat} (hi : i < k) : 0 ≤ fAt xs i ∧ fAt xs i < N := by
  have := befP_ge (xs := xs) (N := N) (k := i) (fun j hj => h j (by omega))
  have := h i hi
  omega
theorem good_up {xs : List Int} {N : Int} {k : Nat} (h : goodTo xs N k) {i : Nat} (hi : i < k) : (i : Int) ≤ fAt xs i := by
  induction i with
  | zero => exact (good_ge h hi).1
  | succ i ih =>
    have := ih (by omega)
    have := good_lt h i (i + 1) (by omega) hi
    omega
theorem good_len {xs : List Int} {N : Nat} (h : goodTo xs N xs.length) : xs.length ≤ N := by
  rcases Nat.eq_zero_or_pos xs.length with e | e
  · omega
  · have h1 := good_up h (i := xs.length - 1) (by omega)
    have h2 := (good_ge h (i := xs.length - 1) (by omega)).2
    omega
theorem mem_take_at {xs : List Int} {k : Nat} {x : Int} (h : x ∈ xs.take k) : ∃ i, i < k ∧ i < xs.length ∧ fAt xs i = x := by
  obtain ⟨i, hi, e⟩ := List.getElem_of_mem h
  rw [List.length_take] at hi
  refine ⟨i, by omega, by omega, ?_⟩
  rw [List.getElem_take] at e
  simp [fAt, List.getElem?_eq_getElem (show i < xs.length by omega), e]
/-- A sum over an increasing list. -/
theorem S_list {xs : List Int} {N : Nat} (f : Nat → Int) {k : Nat} (hk : k ≤ xs.length) (h : goodTo xs N k) : S k (fun i => f (fAt xs i).toNat) = S N (fun i => pick (inL (xs.take k) i = true) (f i)) := by
  induction k with
  | zero => rw [S_congr (n := N) (h := fun _ => 0) (fun i _ => pick_neg (by simp [inL]) _), S_zero]; rfl
  | succ k ih =>
    have hg : goodTo xs N k := fun i hi => h i (by omega)
    rw [S_succ, ih (by omega) hg]
    obtain ⟨d, hd⟩ : ∃ d : Nat, fAt xs k = d := ⟨(fAt xs k).toNat, by have := (good_ge h (i := k) (by omega)).1; omega⟩
    have hdN : d < N := by have := (good_ge h (i := k) (by omega)).2; omega
    have hnew : inL (xs.take k) d = false := by
      unfold inL
      rw [decide_eq_false_iff_not]
      intro hm
      obtain ⟨i, hi, _, e⟩ := mem_take_at hm
      have := good_lt h i k hi (by omega)
      omega
    rw [S_change (n := N) (k := d) hdN (h := fun i => pick (inL (xs.take k) i = true) (f i)) (g := fun i => pick (inL (xs.take (k + 1)) i = true) (f i)) (fun i _ hne => by rw [inL_succ (by omega) hd, if_neg hne])]
    have e1 : pick (inL (xs.take (k + 1)) d = true) (f d) = f d := pick_pos (by rw [inL_succ (by omega) hd, if_pos rfl]) _
    have e2 : pick (inL (xs.take k) d = true) (f d) = 0 := pick_neg (by rw [hnew]; simp) _
    rw [e1, e2, hd]
    simp
theorem S_list_all {xs : List Int} {N : Nat} (f : Nat → Int) (h : goodTo xs N xs.length) : S xs.length (fun i => f (fAt xs i).toNat) = S N (fun i => pick (inL xs i = true) (f i)) := by
  have := S_list f (Nat.le_refl _) h
  rwa [List.take_of_length_le (Nat.le_refl _)] at this
def freeJ (js : List GJob) (T : Nat) (cs : Nat → Bool) (i : Nat) : Int := S T (fun t => pick (inJ (jAt js i) t ∧ cs t = false) (jAt js i).rate)
/-- What a job's slots outside the cut add, for the first m of them. -/
def freeTo (j : GJob) (cs : Nat → Bool) (m : Nat) : Int := S m (fun q => pick (cs (j.frm.toNat + q) = false) j.rate)
theorem freeTo_all {js : List GJob} {sup : List Int} (hok : okP js sup = true) (cs : Nat → Bool) {i : Nat} (hi : i < js.length) : freeTo (jAt js i) cs (lenJ (jAt js i)) = freeJ js sup.length cs i := by
  obtain ⟨a, b, c, _⟩ := okP_job hok hi
  unfold freeTo freeJ
  rw [S_slots a b c (fun t => pick (cs t = false) (jAt js i).rate)]
  refine S_congr fun t _ => ?_
  unfold pick
  by_cases x : inJ (jAt js i) t <;> by_cases y : cs t = false <;> simp [x, y]
noncomputable def cutPB (js : List GJob) (sup cj cs : List Int) : Bool := okP js sup && (marksB cj js.length && marksB cs sup.length && decide (roomC js sup (inL cj) (inL cs) < needC js (inL cj)))
theorem cut_need {js : List GJob} {cj : List Int} (h : goodTo cj js.length cj.length) : S cj.length (fun k => (jAt js (fAt cj k).toNat).energy) = needC js (inL cj) := S_list_all (fun i => (jAt js i).energy) h
theorem cut_room {js : List GJob} {sup cj cs : List Int} (h : goodTo cj js.length cj.length) (h2 : goodTo cs sup.length cs.length) : S cs.length (fun k => fAt sup (fAt cs k).toNat) + S cj.length (fun k => freeJ js sup.length (inL cs) (fAt cj k).toNat) = roomC js sup (inL cj) (inL cs) := by
  rw [S_list_all (fun t => fAt sup t) h2, S_list_all (fun i => freeJ js sup.length (inL cs) i) h]
  rfl
end Go.Proofs.Ytmmmgafnmpaohaa
