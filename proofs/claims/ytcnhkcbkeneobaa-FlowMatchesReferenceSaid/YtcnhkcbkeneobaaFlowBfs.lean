/-
The search for a way, in plain words: what its state says, and how it changes when a node is found.
-/
import Derived.Test.YtcnhkcbkeneobaaFlowJ
namespace Go.Proofs.Ytcnhkcbkeneobaa
open Go.RowKit

abbrev bAt (seen : List Bool) (v : Nat) : Bool := seen[v]?.getD false
abbrev stAt (st : List GStep) (v : Nat) : GStep := st[v]?.getD default

/-- Each node that was found, but the source, was found by a step from a node that was found earlier. -/
def TreeAt (es : List GEdge) (fl : List Int) (nn N s : Nat) (seen : List Bool) (st : List GStep) (rk : Nat → Nat) : Prop :=
  ∀ v, v < nn → bAt seen v = true → v ≠ s → ∃ u, u < nn ∧ bAt seen u = true ∧ rk u < rk v ∧ GoodStep es fl u N (stAt st v) ∧ (stAt st v).dst = v

structure Bfs (es : List GEdge) (fl : List Int) (nn N s t : Nat) (seen : List Bool) (st : List GStep) (xs : List Int) : Prop where
  lenS : seen.length = nn
  lenB : st.length = nn
  src : bAt seen s = true
  tree : ∃ rk : Nat → Nat, (∀ v, v < nn → bAt seen v = true → rk v < xs.length) ∧ TreeAt es fl nn N s seen st rk
  listed : ∀ v : Nat, v < nn → bAt seen v = true → (v : Int) ∈ xs
  elems : ∀ x, x ∈ xs → ∃ v : Nat, x = v ∧ v < nn ∧ bAt seen v = true
  cnt : seen.count true = xs.length
  notT : bAt seen t = false

theorem bAt_set {seen : List Bool} {v u : Nat} (hv : v < seen.length) : bAt (seen.set v true) u = if u = v then true else bAt seen u := by
  unfold bAt
  rw [List.getElem?_set]
  by_cases h : v = u
  · subst h; simp [hv]
  · have h' : ¬ u = v := fun e => h e.symm
    simp [h, h']
theorem stAt_set {st : List GStep} {v u : Nat} {x : GStep} (hv : v < st.length) : stAt (st.set v x) u = if u = v then x else stAt st u := by
  unfold stAt
  rw [List.getElem?_set]
  by_cases h : v = u
  · subst h; simp [hv]
  · have h' : ¬ u = v := fun e => h e.symm
    simp [h, h']
theorem count_set : ∀ (seen : List Bool) (v : Nat), v < seen.length → bAt seen v = false → (seen.set v true).count true = seen.count true + 1
  | [], v, hv, _ => absurd hv (by simp)
  | a :: l, 0, _, h => by
    have : a = false := by simpa [bAt] using h
    subst this
    simp
  | a :: l, v + 1, hv, h => by
    have ih := count_set l v (by simpa using hv) (by simpa [bAt] using h)
    simp only [List.set_cons_succ, List.count_cons, ih]
    omega

theorem TreeAt.add {es : List GEdge} {fl : List Int} {nn N s : Nat} {seen : List Bool} {st : List GStep} {rk : Nat → Nat} {m : Nat} (hS : seen.length = nn) (hB : st.length = nn) (hr : ∀ v, v < nn → bAt seen v = true → rk v < m) (h : TreeAt es fl nn N s seen st rk)
    {u v : Nat} {x : GStep} (hv : v < nn) (hnew : bAt seen v = false) (hu : u < nn) (hus : bAt seen u = true) (hg : GoodStep es fl u N x) (hd : x.dst = v) :
    TreeAt es fl nn N s (seen.set v true) (st.set v x) (fun y => if y = v then m else rk y) ∧ (∀ y, y < nn → bAt (seen.set v true) y = true → (if y = v then m else rk y) < m + 1) := by
  have huv : u ≠ v := by rintro rfl; rw [hnew] at hus; cases hus
  constructor
  · intro y hy hys hne
    rw [bAt_set (by omega)] at hys
    by_cases e : y = v
    · subst e
      exact ⟨u, hu, by rw [bAt_set (by omega), if_neg huv]; exact hus, by simp only [huv, if_true, if_false]; exact hr u hu hus, by rw [stAt_set (by omega), if_pos rfl]; exact hg, by rw [stAt_set (by omega), if_pos rfl]; exact hd⟩
    · rw [if_neg e] at hys
      obtain ⟨z, hz, hzs, hlt, hgz, hdz⟩ := h y hy hys hne
      have hzv : z ≠ v := by rintro rfl; rw [hnew] at hzs; cases hzs
      exact ⟨z, hz, by rw [bAt_set (by omega), if_neg hzv]; exact hzs, by simp only [hzv, e, if_false]; exact hlt, by rw [stAt_set (by omega), if_neg e]; exact hgz, by rw [stAt_set (by omega), if_neg e]; exact hdz⟩
  · intro y hy hys
    rw [bAt_set (by omega)] at hys
    by_cases e : y = v
    · rw [if_pos e]; omega
    · rw [if_neg e] at hys
      rw [if_neg e]
      have := hr y hy hys
      omega

theorem Bfs.add {es : List GEdge} {fl : List Int} {nn N s t : Nat} {seen : List Bool} {st : List GStep} {xs : List Int} (h : Bfs es fl nn N s t seen st xs)
    {u v : Nat} {x : GStep} (hv : v < nn) (hnew : bAt seen v = false) (hvt : v ≠ t) (hu : u < nn) (hus : bAt seen u = true) (hg : GoodStep es fl u N x) (hd : x.dst = v) :
    Bfs es fl nn N s t (seen.set v true) (st.set v x) (xs ++ [(v : Int)]) := by
  obtain ⟨rk, hr, htree⟩ := h.tree
  have hS := h.lenS
  have hB := h.lenB
  obtain ⟨t1, t2⟩ := htree.add hS hB hr hv hnew hu hus hg hd
  refine ⟨by rw [List.length_set]; exact hS, by rw [List.length_set]; exact hB, ?_, ⟨_, ?_, t1⟩, ?_, ?_, ?_, ?_⟩
  · rw [bAt_set (by omega)]; split
    · rfl
    · exact h.src
  · intro y hy hys
    rw [List.length_append]
    exact t2 y hy hys
  · intro y hy hys
    rw [bAt_set (by omega)] at hys
    by_cases e : y = v
    · subst e; simp
    · rw [if_neg e] at hys
      exact List.mem_append_left _ (h.listed y hy hys)
  · intro z hz
    rcases List.mem_append.1 hz with hz | hz
    · obtain ⟨y, rfl, hy, hys⟩ := h.elems z hz
      exact ⟨y, rfl, hy, by rw [bAt_set (by omega), hys]; simp⟩
    · obtain rfl : z = (v : Int) := by simpa using hz
      exact ⟨v, rfl, hv, by rw [bAt_set (by omega)]; simp⟩
  · rw [count_set _ _ (by omega) hnew, h.cnt, List.length_append]; rfl
  · rw [bAt_set (by omega), if_neg (fun e => hvt e.symm)]; exact h.notT

/-- A way to the sink was found. -/
def Found (es : List GEdge) (fl : List Int) (nn N s t : Nat) (seen : List Bool) (st : List GStep) : Prop :=
  seen.length = nn ∧ st.length = nn ∧ bAt seen s = true ∧ bAt seen t = true ∧ ∃ rk, TreeAt es fl nn N s seen st rk

theorem Bfs.found {es : List GEdge} {fl : List Int} {nn N s t : Nat} {seen : List Bool} {st : List GStep} {xs : List Int} (h : Bfs es fl nn N s t seen st xs)
    {u : Nat} {x : GStep} (ht : t < nn) (hu : u < nn) (hus : bAt seen u = true) (hg : GoodStep es fl u N x) (hd : x.dst = t) :
    Found es fl nn N s t (seen.set t true) (st.set t x) := by
  obtain ⟨rk, hr, htree⟩ := h.tree
  have hS := h.lenS
  have hB := h.lenB
  obtain ⟨t1, _⟩ := htree.add hS hB hr ht h.notT hu hus hg hd
  refine ⟨by rw [List.length_set]; exact hS, by rw [List.length_set]; exact hB, ?_, by rw [bAt_set (by omega)]; simp, _, t1⟩
  rw [bAt_set (by omega), h.src]; simp

/-- All that can be reached from u in one step was found. -/
def DoneAt (es : List GEdge) (fl : List Int) (N : Nat) (seen : List Bool) (u : Nat) : Prop :=
  ∀ i, i < N → ((eAt es i).frm = u → fAt fl i < (eAt es i).cap → bAt seen (eAt es i).to.toNat = true) ∧ ((eAt es i).to = u → 0 < fAt fl i → bAt seen (eAt es i).frm.toNat = true)

theorem DoneAt.set {es : List GEdge} {fl : List Int} {N u v : Nat} {seen : List Bool} (h : DoneAt es fl N seen u) (hv : v < seen.length) : DoneAt es fl N (seen.set v true) u := fun i hi =>
  ⟨fun a b => by rw [bAt_set hv, (h i hi).1 a b]; simp, fun a b => by rw [bAt_set hv, (h i hi).2 a b]; simp⟩

theorem inc_mem {es : List GEdge} {N u i : Nat} (hi : i < N) (h : (eAt es i).frm = u ∨ (eAt es i).to = u) : (i : Int) ∈ inc es N u := by
  unfold inc
  exact List.mem_map.2 ⟨i, List.mem_filter.2 ⟨by simpa using hi, by simpa using h⟩, rfl⟩
theorem stepsOf_mem {es : List GEdge} {fl : List Int} {node : Int} {l : List Int} {i : Nat} (hi : (i : Int) ∈ l) (h : 0 < (mkStep es fl node i).room) : mkStep es fl node i ∈ stepsOf es fl node l := by
  unfold stepsOf
  exact List.mem_filter.2 ⟨List.mem_map.2 ⟨(i : Int), hi, by simp⟩, by simpa using h⟩

/-- A node all of whose steps lead to nodes that were found is done. -/
theorem doneAt_of {es : List GEdge} {fl : List Int} {N u : Nat} {seen : List Bool} (hu : bAt seen u = true) (h : ∀ x, x ∈ stepsOf es fl u (inc es N u) → bAt seen x.dst.toNat = true) : DoneAt es fl N seen u := by
  intro i hi
  constructor
  · intro hf hc
    have hs : mkStep es fl u i = ⟨i, (eAt es i).to, (eAt es i).cap - fAt fl i, true⟩ := by unfold mkStep; rw [if_pos hf]
    have := h _ (stepsOf_mem (inc_mem hi (.inl hf)) (by rw [hs]; dsimp only; omega))
    rw [hs] at this
    exact this
  · intro ht hc
    by_cases hf : (eAt es i).frm = u
    · rw [hf]; simpa using hu
    · have hs : mkStep es fl u i = ⟨i, (eAt es i).frm, fAt fl i, false⟩ := by unfold mkStep; rw [if_neg hf]
      have := h _ (stepsOf_mem (inc_mem hi (.inr ht)) (by rw [hs]; exact hc))
      rw [hs] at this
      exact this
theorem GoodStep.dst_lt {es : List GEdge} {fl : List Int} {nn N u : Nat} {x : GStep} (hok : okG nn es = true) (hlen : es.length = N) (h : GoodStep es fl u N x) : 0 ≤ x.dst ∧ x.dst < nn := by
  obtain ⟨i, hi, rfl, _, _⟩ := h
  have := okG_at hok (i := i) (by omega)
  unfold mkStep
  split <;> (dsimp only; omega)
end Go.Proofs.Ytcnhkcbkeneobaa
