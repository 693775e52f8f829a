/-
Several texts in one: FlowBfs, FlowWay, FlowP.
-/
import Derived.Test.YtgfcnkfmgpakkaaGFlowI
/-
The search for a way, in plain words: what its state says, and how it changes when a node is found.
-/
namespace Go.Proofs.Ytgfcnkfmgpakkaa
open Go.RowKit

abbrev bAt (seen : List Bool) (v : Nat) : Bool := seen[v]?.getD false
abbrev stAt (st : List GStep) (v : Nat) : GStep := st[v]?.getD default

/-- Each node that was found, but the source, was found by a step from a node that was found earlier. -/
def TreeAt (es : List GEdge) (fl : List Int) (nn N s : Nat) (seen : List Bool) (st : List GStep) (rk : Nat → Nat) : Prop :=
  ∀ v, v < nn → bAt seen v = true → v ≠ s → ∃ u, u < nn ∧ bAt seen u = true ∧ rk u < rk v ∧ GoodStep es fl u N (stAt st v) ∧ (stAt st v).dst = v

structure Bfs (es : List GEdge) (fl : List Int) (nn N s t : Nat) (seen : List Bool) (st : List GStep) (xs : List Int) : Prop where
  lenS : seen.length = nn
  lenB : st.length = nn
  src : bAt seen s = true
  tree : ∃ rk : Nat → Nat, (∀ v, v < nn → bAt seen v = true → rk v < xs.length) ∧ TreeAt es fl nn N s seen st rk
  listed : ∀ v : Nat, v < nn → bAt seen v = true → (v : Int) ∈ xs
  elems : ∀ x, x ∈ xs → ∃ v : Nat, x = v ∧ v < nn ∧ bAt seen v = true
  cnt : seen.count true = xs.length
  notT : bAt seen t = false

theorem bAt_set {seen : List Bool} {v u : Nat} (hv : v < seen.length) : bAt (seen.set v true) u = if u = v then true else bAt seen u := by
  unfold bAt
  rw [List.getElem?_set]
  by_cases h : v = u
  · subst h; simp [hv]
  · have h' : ¬ u = v := fun e => h e.symm
    simp [h, h']
theorem stAt_set {st : List GStep} {v u : Nat} {x : GStep} (hv : v < st.length) : stAt (st.set v x) u = if u = v then x else stAt st u := by
  unfold stAt
  rw [List.getElem?_set]
  by_cases h : v = u
  · subst h; simp [hv]
  · have h' : ¬ u = v := fun e => h e.symm
    simp [h, h']
theorem count_set : ∀ (seen : List Bool) (v : Nat), v < seen.length → bAt seen v = false → (seen.set v true).count true = seen.count true + 1
  | [], v, hv, _ => absurd hv (by simp)
  | a :: l, 0, _, h => by
    have : a = false := by simpa [bAt] using h
    subst this
    simp
  | a :: l, v + 1, hv, h => by
    have ih := count_set l v (by simpa using hv) (by simpa [bAt] using h)
    simp only [List.set_cons_succ, List.count_cons, ih]
    omega

theorem TreeAt.add {es : List GEdge} {fl : List Int} {nn N s : Nat} {seen : List Bool} {st : List GStep} {rk : Nat → Nat} {m : Nat} (hS : seen.length = nn) (hB : st.length = nn) (hr : ∀ v, v < nn → bAt seen v = true → rk v < m) (h : TreeAt es fl nn N s seen st rk)
    {u v : Nat} {x : GStep} (hv : v < nn) (hnew : bAt seen v = false) (hu : u < nn) (hus : bAt seen u = true) (hg : GoodStep es fl u N x) (hd : x.dst = v) :
    TreeAt es fl nn N s (seen.set v true) (st.set v x) (fun y => if y = v then m else rk y) ∧ (∀ y, y < nn → bAt (seen.set v true) y = true → (if y = v then m else rk y) < m + 1) := by
  have huv : u ≠ v := by rintro rfl; rw [hnew] at hus; cases hus
  constructor
  · intro y hy hys hne
    rw [bAt_set (by omega)] at hys
    by_cases e : y = v
    · subst e
      exact ⟨u, hu, by rw [bAt_set (by omega), if_neg huv]; exact hus, by simp only [huv, if_true, if_false]; exact hr u hu hus, by rw [stAt_set (by omega), if_pos rfl]; exact hg, by rw [stAt_set (by omega), if_pos rfl]; exact hd⟩
    · rw [if_neg e] at hys
      obtain ⟨z, hz, hzs, hlt, hgz, hdz⟩ := h y hy hys hne
      have hzv : z ≠ v := by rintro rfl; rw [hnew] at hzs; cases hzs
      exact ⟨z, hz, by rw [bAt_set (by omega), if_neg hzv]; exact hzs, by simp only [hzv, e, if_false]; exact hlt, by rw [stAt_set (by omega), if_neg e]; exact hgz, by rw [stAt_set (by omega), if_neg e]; exact hdz⟩
  · intro y hy hys
    rw [bAt_set (by omega)] at hys
    by_cases e : y = v
    · rw [if_pos e]; omega
    · rw [if_neg e] at hys
      rw [if_neg e]
      have := hr y hy hys
      omega

theorem Bfs.add {es : List GEdge} {fl : List Int} {nn N s t : Nat} {seen : List Bool} {st : List GStep} {xs : List Int} (h : Bfs es fl nn N s t seen st xs)
    {u v : Nat} {x : GStep} (hv : v < nn) (hnew : bAt seen v = false) (hvt : v ≠ t) (hu : u < nn) (hus : bAt seen u = true) (hg : GoodStep es fl u N x) (hd : x.dst = v) :
    Bfs es fl nn N s t (seen.set v true) (st.set v x) (xs ++ [(v : Int)]) := by
  obtain ⟨rk, hr, htree⟩ := h.tree
  have hS := h.lenS
  have hB := h.lenB
  obtain ⟨t1, t2⟩ := htree.add hS hB hr hv hnew hu hus hg hd
  refine ⟨by rw [List.length_set]; exact hS, by rw [List.length_set]; exact hB, ?_, ⟨_, ?_, t1⟩, ?_, ?_, ?_, ?_⟩
  · rw [bAt_set (by omega)]; split
    · rfl
    · exact h.src
  · intro y hy hys
    rw [List.length_append]
    exact t2 y hy hys
  · intro y hy hys
    rw [bAt_set (by omega)] at hys
    by_cases e : y = v
    · subst e; simp
    · rw [if_neg e] at hys
      exact List.mem_append_left _ (h.listed y hy hys)
  · intro z hz
    rcases List.mem_append.1 hz with hz | hz
    · obtain ⟨y, rfl, hy, hys⟩ := h.elems z hz
      exact ⟨y, rfl, hy, by rw [bAt_set (by omega), hys]; simp⟩
    · obtain rfl : z = (v : Int) := by simpa using hz
      exact ⟨v, rfl, hv, by rw [bAt_set (by omega)]; simp⟩
  · rw [count_set _ _ (by omega) hnew, h.cnt, List.length_append]; rfl
  · rw [bAt_set (by omega), if_neg (fun e => hvt e.symm)]; exact h.notT

/-- A way to the sink was found. -/
def Found (es : List GEdge) (fl : List Int) (nn N s t : Nat) (seen : List Bool) (st : List GStep) : Prop :=
  seen.length = nn ∧ st.length = nn ∧ bAt seen s = true ∧ bAt seen t = true ∧ ∃ rk, TreeAt es fl nn N s seen st rk

theorem Bfs.found {es : List GEdge} {fl : List Int} {nn N s t : Nat} {seen : List Bool} {st : List GStep} {xs : List Int} (h : Bfs es fl nn N s t seen st xs)
    {u : Nat} {x : GStep} (ht : t < nn) (hu : u < nn) (hus : bAt seen u = true) (hg : GoodStep es fl u N x) (hd : x.dst = t) :
    Found es fl nn N s t (seen.set t true) (st.set t x) := by
  obtain ⟨rk, hr, htree⟩ := h.tree
  have hS := h.lenS
  have hB := h.lenB
  obtain ⟨t1, _⟩ := htree.add hS hB hr ht h.notT hu hus hg hd
  refine ⟨by rw [List.length_set]; exact hS, by rw [List.length_set]; exact hB, ?_, by rw [bAt_set (by omega)]; simp, _, t1⟩
  rw [bAt_set (by omega), h.src]; simp

/-- All that can be reached from u in one step was found. -/
def DoneAt (es : List GEdge) (fl : List Int) (N : Nat) (seen : List Bool) (u : Nat) : Prop :=
  ∀ i, i < N → ((eAt es i).frm = u → fAt fl i < (eAt es i).cap → bAt seen (eAt es i).to.toNat = true) ∧ ((eAt es i).to = u → 0 < fAt fl i → bAt seen (eAt es i).frm.toNat = true)

theorem DoneAt.set {es : List GEdge} {fl : List Int} {N u v : Nat} {seen : List Bool} (h : DoneAt es fl N seen u) (hv : v < seen.length) : DoneAt es fl N (seen.set v true) u := fun i hi =>
  ⟨fun a b => by rw [bAt_set hv, (h i hi).1 a b]; simp, fun a b => by rw [bAt_set hv, (h i hi).2 a b]; simp⟩

theorem inc_mem {es : List GEdge} {N u i : Nat} (hi : i < N) (h : (eAt es i).frm = u ∨ (eAt es i).to = u) : (i : Int) ∈ inc es N u := by
  unfold inc
  exact List.mem_map.2 ⟨i, List.mem_filter.2 ⟨by simpa using hi, by simpa using h⟩, rfl⟩
theorem stepsOf_mem {es : List GEdge} {fl : List Int} {node : Int} {l : List Int} {i : Nat} (hi : (i : Int) ∈ l) (h : 0 < (mkStep es fl node i).room) : mkStep es fl node i ∈ stepsOf es fl node l := by
  unfold stepsOf
  exact List.mem_filter.2 ⟨List.mem_map.2 ⟨(i : Int), hi, by simp⟩, by simpa using h⟩

/-- A node all of whose steps lead to nodes that were found is done. -/
theorem doneAt_of {es : List GEdge} {fl : List Int} {N u : Nat} {seen : List Bool} (hu : bAt seen u = true) (h : ∀ x, x ∈ stepsOf es fl u (inc es N u) → bAt seen x.dst.toNat = true) : DoneAt es fl N seen u := by
  intro i hi
  constructor
  · intro hf hc
    have hs : mkStep es fl u i = ⟨i, (eAt es i).to, (eAt es i).cap - fAt fl i, true⟩ := by unfold mkStep; rw [if_pos hf]
    have := h _ (stepsOf_mem (inc_mem hi (.inl hf)) (by rw [hs]; dsimp only; omega))
    rw [hs] at this
    exact this
  · intro ht hc
    by_cases hf : (eAt es i).frm = u
    · rw [hf]; simpa using hu
    · have hs : mkStep es fl u i = ⟨i, (eAt es i).frm, fAt fl i, false⟩ := by unfold mkStep; rw [if_neg hf]
      have := h _ (stepsOf_mem (inc_mem hi (.inr ht)) (by rw [hs]; exact hc))
      rw [hs] at this
      exact this
theorem GoodStep.dst_lt {es : List GEdge} {fl : List Int} {nn N u : Nat} {x : GStep} (hok : okG nn es = true) (hlen : es.length = N) (h : GoodStep es fl u N x) : 0 ≤ x.dst ∧ x.dst < nn := by
  obtain ⟨i, hi, rfl, _, _⟩ := h
  have := okG_at hok (i := i) (by omega)
  unfold mkStep
  split <;> (dsimp only; omega)
end Go.Proofs.Ytgfcnkfmgpakkaa
/-
A way through a network, in plain words: from the sink back to the source by the steps that were found; a flow made greater along it is a flow.
-/
namespace Go.Proofs.Ytgfcnkfmgpakkaa
open Go.RowKit
set_option linter.unusedVariables false
set_option linter.unusedSimpArgs false

/-- The node from which a step comes. -/
def fromV (es : List GEdge) (x : GStep) : Int := if x.fwd then (eAt es x.edge.toNat).frm else (eAt es x.edge.toNat).to
theorem from_good {es : List GEdge} {fl : List Int} {u N : Nat} {x : GStep} (h : GoodStep es fl u N x) : fromV es x = u := by
  obtain ⟨i, hi, rfl, hr, hor⟩ := h
  unfold fromV mkStep
  by_cases c : (eAt es i).frm = u
  · rw [if_pos c]; simp [c]
  · rw [if_neg c]
    rcases hor with h | h
    · exact absurd h c
    · simp [h]
/-- p 0, p 1, .. p K: the way from t back to s. -/
structure Way (es : List GEdge) (fl : List Int) (nn N s t : Nat) (st : List GStep) (p : Nat → Nat) (K : Nat) : Prop where
  p0 : p 0 = t
  pK : p K = s
  lt : ∀ k, k ≤ K → p k < nn
  ne : ∀ k, k < K → p k ≠ s
  good : ∀ k, k < K → GoodStep es fl (p (k + 1)) N (stAt st (p k))
  dst : ∀ k, k < K → (stAt st (p k)).dst = p k
  inj : ∀ j k, j < K → k < K → (stAt st (p j)).edge = (stAt st (p k)).edge → j = k
theorem way_of {es : List GEdge} {fl : List Int} {nn N s t : Nat} {seen : List Bool} {st : List GStep} (hs : s < nn) (ht : t < nn) (h : Found es fl nn N s t seen st) : ∃ p K, Way es fl nn N s t st p K := by
  obtain ⟨_, _, _, hts, rk, htree⟩ := h
  have gen : ∀ m v, v < nn → bAt seen v = true → rk v < m → ∃ (p : Nat → Nat) (K : Nat), p 0 = v ∧ p K = s ∧ (∀ k, k ≤ K → p k < nn) ∧ (∀ k, k < K → p k ≠ s) ∧ (∀ k, k < K → GoodStep es fl (p (k + 1)) N (stAt st (p k))) ∧ (∀ k, k < K → (stAt st (p k)).dst = p k) ∧ (∀ j k, j < k → k ≤ K → rk (p k) < rk (p j)) := by
    intro m
    induction m with
    | zero => intro v _ _ h; omega
    | succ m ih =>
      intro v hv hvs hr
      by_cases e : v = s
      · exact ⟨fun _ => v, 0, rfl, e, fun _ _ => hv, fun _ h => by omega, fun _ h => by omega, fun _ h => by omega, fun _ _ _ h => by omega⟩
      · obtain ⟨u, hu, hus, hlt, hg, hd⟩ := htree v hv hvs e
        obtain ⟨p, K, h0, hK, h1, h2, h3, h4, h5⟩ := ih u hu hus (by omega)
        refine ⟨fun k => if k = 0 then v else p (k - 1), K + 1, by simp, ?_, ?_, ?_, ?_, ?_, ?_⟩
        · simp [hK]
        · intro k hk
          by_cases c : k = 0
          · simp [c, hv]
          · simp only [c, if_false]; exact h1 _ (by omega)
        · intro k hk
          by_cases c : k = 0
          · simp [c, e]
          · simp only [c, if_false]; exact h2 _ (by omega)
        · intro k hk
          by_cases c : k = 0
          · subst c; simp only [if_true, Nat.zero_add, Nat.add_eq_zero_iff, Nat.one_ne_zero, and_false, if_false]
            rw [show 1 - 1 = 0 from rfl, h0]; exact hg
          · have := h3 (k - 1) (by omega)
            rw [show k - 1 + 1 = k from by omega] at this
            simp only [c, if_false, Nat.add_eq_zero_iff, Nat.one_ne_zero, and_false, Nat.add_sub_cancel]
            exact this
        · intro k hk
          by_cases c : k = 0
          · simp [c, hd]
          · simp only [c, if_false]; exact h4 _ (by omega)
        · intro j k hjk hk
          have ck : k ≠ 0 := by omega
          simp only [ck, if_false]
          by_cases c : j = 0
          · simp only [c, if_true]
            by_cases d : k - 1 = 0
            · rw [d, h0]; exact hlt
            · have := h5 0 (k - 1) (by omega) (by omega)
              rw [h0] at this
              omega
          · simp only [c, if_false]
            exact h5 (j - 1) (k - 1) (by omega) (by omega)
  obtain ⟨p, K, h0, hK, h1, h2, h3, h4, h5⟩ := gen (rk t + 1) t ht hts (by omega)
  refine ⟨p, K, h0, hK, h1, h2, h3, h4, ?_⟩
  have key : ∀ j k, j < k → k < K → (stAt st (p j)).edge ≠ (stAt st (p k)).edge := by
    intro j k hjk hk he
    obtain ⟨i, hi, ei, _, _⟩ := h3 j (by omega)
    obtain ⟨i', hi', ei', _, _⟩ := h3 k hk
    have hii : i = i' := by
      rw [ei, ei'] at he
      unfold mkStep at he
      split at he <;> split at he <;> exact Int.ofNat.inj he
    subst hii
    have d1 := h4 j (by omega)
    have d2 := h4 k hk
    rw [ei] at d1
    rw [ei'] at d2
    have r1 := h5 j k hjk (by omega)
    have r2 := h5 j (j + 1) (by omega) (by omega)
    have r3 := h5 k (k + 1) (by omega) (by omega)
    unfold mkStep at d1 d2
    by_cases c1 : (eAt es i).frm = (p (j + 1) : Nat) <;> by_cases c2 : (eAt es i).frm = (p (k + 1) : Nat)
    · rw [if_pos c1] at d1
      rw [if_pos c2] at d2
      have : p j = p k := Int.ofNat.inj (d1.symm.trans d2)
      rw [this] at r1; omega
    · rw [if_pos c1] at d1
      rw [if_neg c2] at d2
      have e1 : p (j + 1) = p k := Int.ofNat.inj (c1.symm.trans d2)
      have g := from_good (h3 k hk)
      rw [ei'] at g
      unfold fromV mkStep at g
      rw [if_neg c2] at g
      simp only [Bool.false_eq_true, if_false, Int.toNat_natCast] at g
      have e2 : p j = p (k + 1) := Int.ofNat.inj (d1.symm.trans g)
      rw [← e2] at r3
      omega
    · rw [if_neg c1] at d1
      rw [if_pos c2] at d2
      have e1 : p j = p (k + 1) := Int.ofNat.inj (d1.symm.trans c2)
      rw [← e1] at r3
      omega
    · rw [if_neg c1] at d1
      rw [if_neg c2] at d2
      have : p j = p k := Int.ofNat.inj (d1.symm.trans d2)
      rw [this] at r1; omega
  intro j k hj hk he
  rcases Nat.lt_trichotomy j k with c | c | c
  · exact absurd he (key j k c hk)
  · exact c
  · exact absurd he.symm (key k j c hj)

/-- The least room along the first k steps. -/
def roomTo (st : List GStep) (p : Nat → Nat) (r : Int) : Nat → Int
  | 0 => r
  | k + 1 => min (roomTo st p r k) (stAt st (p k)).room
theorem roomTo_le {st : List GStep} {p : Nat → Nat} {r : Int} {j k : Nat} (h : j < k) : roomTo st p r k ≤ (stAt st (p j)).room := by
  induction k with
  | zero => omega
  | succ k ih =>
    simp only [roomTo]
    by_cases c : j = k
    · subst c; omega
    · have := ih (by omega); omega
theorem roomTo_pos {st : List GStep} {p : Nat → Nat} {r : Int} {k : Nat} (hr : 0 < r) (h : ∀ j, j < k → 0 < (stAt st (p j)).room) : 0 < roomTo st p r k := by
  induction k with
  | zero => exact hr
  | succ k ih =>
    have := ih (fun j hj => h j (by omega))
    have := h k (by omega)
    simp only [roomTo]; omega
/-- The flow behind the first k steps. -/
def flTo (fl : List Int) (st : List GStep) (p : Nat → Nat) (r : Int) : Nat → List Int
  | 0 => fl
  | k + 1 => (flTo fl st p r k).set (stAt st (p k)).edge.toNat (if (stAt st (p k)).fwd then fAt (flTo fl st p r k) (stAt st (p k)).edge.toNat + r else fAt (flTo fl st p r k) (stAt st (p k)).edge.toNat - r)
theorem flTo_length (fl : List Int) (st : List GStep) (p : Nat → Nat) (r : Int) (k : Nat) : (flTo fl st p r k).length = fl.length := by
  induction k with
  | zero => rfl
  | succ k ih => simp only [flTo, List.length_set]; exact ih
/-- What holds of the flow behind k steps. -/
structure Part (nodes : Int) (es : List GEdge) (fl : List Int) (s t : Nat) (st : List GStep) (p : Nat → Nat) (K : Nat) (r : Int) (k : Nat) : Prop where
  fits : ∀ i, i < es.length → 0 ≤ fAt (flTo fl st p r k) i ∧ fAt (flTo fl st p r k) i ≤ (eAt es i).cap
  same : ∀ j, k ≤ j → j < K → fAt (flTo fl st p r k) (stAt st (p j)).edge.toNat = fAt fl (stAt st (p j)).edge.toNat
  nets : ∀ u : Int, net es (flTo fl st p r k) u = net es fl u + (if u = (p k : Int) then r else 0) - (if u = (t : Int) then r else 0)
theorem part_all {nn N s t : Nat} {es : List GEdge} {fl : List Int} {st : List GStep} {p : Nat → Nat} {K : Nat} {r : Int} (hok : okG nn es = true) (hN : es.length = N) (hfl : fl.length = N) (hf : ∀ i, i < es.length → 0 ≤ fAt fl i ∧ fAt fl i ≤ (eAt es i).cap)
    (W : Way es fl nn N s t st p K) (hr : 0 < r) (hroom : ∀ j, j < K → r ≤ (stAt st (p j)).room) (k : Nat) (hk : k ≤ K) : Part nn es fl s t st p K r k := by
  induction k with
  | zero =>
    refine ⟨hf, fun _ _ _ => rfl, ?_⟩
    intro u
    rw [W.p0]
    show net es fl u = _
    by_cases c : u = (t : Int) <;> simp [c]
  | succ k ih =>
    have P := ih (by omega)
    obtain ⟨i, hi, ei, hrm, hor⟩ := W.good k (by omega)
    have hd := W.dst k (by omega)
    have hrr := hroom k (by omega)
    have he : (stAt st (p k)).edge.toNat = i := by rw [ei]; unfold mkStep; split <;> simp
    have hlen : (flTo fl st p r k).length = es.length := by rw [flTo_length, hfl, hN]
    have hsm := P.same k (Nat.le_refl _) (by omega)
    rw [he] at hsm
    have hflk := hf i (by omega)
    have hst : ∀ x, fAt ((flTo fl st p r k).set i x) = fun j => if j = i then x else fAt (flTo fl st p r k) j := fun x => funext fun j => fAt_set _ _ _ _ (by omega)
    have hsame : ∀ x j, k + 1 ≤ j → j < K → fAt ((flTo fl st p r k).set i x) (stAt st (p j)).edge.toNat = fAt fl (stAt st (p j)).edge.toNat := by
      intro x j hj hjK
      rw [hst]
      have hne : (stAt st (p j)).edge.toNat ≠ i := by
        intro e
        have hj2 := W.good j hjK
        obtain ⟨i', hi', ei', _, _⟩ := hj2
        have he' : (stAt st (p j)).edge = (i' : Int) := by rw [ei']; unfold mkStep; split <;> rfl
        have he2 : (stAt st (p k)).edge = (i : Int) := by rw [ei]; unfold mkStep; split <;> rfl
        rw [he'] at e
        have : i' = i := by simpa using e
        have := W.inj j k hjK (by omega) (by rw [he', he2, this])
        omega
      simp only [hne, if_false]
      exact P.same j (by omega) hjK
    by_cases c : (eAt es i).frm = (p (k + 1) : Nat)
    · have hfw : (stAt st (p k)).fwd = true := by rw [ei]; unfold mkStep; rw [if_pos c]
      have hdd : (eAt es i).to = (p k : Int) := by rw [ei] at hd; unfold mkStep at hd; rw [if_pos c] at hd; exact hd
      have hrv : (stAt st (p k)).room = (eAt es i).cap - fAt fl i := by rw [ei]; unfold mkStep; rw [if_pos c]
      have hfk : flTo fl st p r (k + 1) = (flTo fl st p r k).set i (fAt fl i + r) := by simp only [flTo]; rw [hfw, he, hsm]; rfl
      refine ⟨?_, by rw [hfk]; exact hsame _, ?_⟩
      · intro j hj
        rw [hfk, hst]
        by_cases d : j = i
        · subst d; simp only [if_true]; omega
        · simp only [d, if_false]; exact P.fits j hj
      · intro u
        rw [hfk, net_set (by omega) hlen, P.nets u, hsm, c, hdd]
        by_cases d1 : u = (p (k + 1) : Int) <;> by_cases d2 : u = (p k : Int)
        · simp [d1, pick, d2 ▸ d1]; try omega
        · simp [d1, pick]; try omega
        · simp [d2, pick]; try omega
        · simp [d1, d2, pick, Ne.symm d1, Ne.symm d2]; try omega
    · have hto : (eAt es i).to = (p (k + 1) : Nat) := by
        rcases hor with h | h
        · exact absurd h c
        · exact h
      have hfw : (stAt st (p k)).fwd = false := by rw [ei]; unfold mkStep; rw [if_neg c]
      have hdd : (eAt es i).frm = (p k : Int) := by rw [ei] at hd; unfold mkStep at hd; rw [if_neg c] at hd; exact hd
      have hrv : (stAt st (p k)).room = fAt fl i := by rw [ei]; unfold mkStep; rw [if_neg c]
      have hfk : flTo fl st p r (k + 1) = (flTo fl st p r k).set i (fAt fl i - r) := by simp only [flTo]; rw [hfw, he, hsm]; rfl
      refine ⟨?_, by rw [hfk]; exact hsame _, ?_⟩
      · intro j hj
        rw [hfk, hst]
        by_cases d : j = i
        · subst d; simp only [if_true]; omega
        · simp only [d, if_false]; exact P.fits j hj
      · intro u
        rw [hfk, net_set (by omega) hlen, P.nets u, hsm, hto, hdd]
        by_cases d1 : u = (p (k + 1) : Int) <;> by_cases d2 : u = (p k : Int)
        · simp [d1, pick, d2 ▸ d1]; try omega
        · simp [d1, pick]; try omega
        · simp [d2, pick]; try omega
        · simp [d1, d2, pick, Ne.symm d1, Ne.symm d2]; try omega
end Go.Proofs.Ytgfcnkfmgpakkaa
/-
Plain: a way that was found makes a greater flow; a search that found none has a cut.
-/
namespace Go.Proofs.Ytgfcnkfmgpakkaa

theorem flow_more {nn N s t : Nat} {es : List GEdge} {fl : List Int} {st : List GStep} {p : Nat → Nat} {K : Nat} (hok : okG nn es = true) (hN : es.length = N) (hf : IsFlow nn es s t fl) (W : Way es fl nn N s t st p K) (hst : s ≠ t) :
    0 < roomTo st p (stAt st t).room K ∧ IsFlow nn es s t (flTo fl st p (roomTo st p (stAt st t).room K) K) ∧ net es (flTo fl st p (roomTo st p (stAt st t).room K) K) s = net es fl s + roomTo st p (stAt st t).room K := by
  have hK : 0 < K := by
    rcases Nat.eq_zero_or_pos K with h | h
    · exact absurd (by rw [← W.pK, h, W.p0]) hst
    · exact h
  have hroom : ∀ j, j < K → 0 < (stAt st (p j)).room := fun j hj => by
    obtain ⟨i, _, _, h, _⟩ := W.good j hj
    exact h
  have hr : 0 < roomTo st p (stAt st t).room K := roomTo_pos (by have := hroom 0 hK; rw [W.p0] at this; exact this) hroom
  generalize hg : roomTo st p (stAt st t).room K = r at *
  have P := part_all (r := r) hok hN (hf.len.trans hN) hf.fits W hr (fun j hj => by rw [← hg]; exact roomTo_le hj) K (Nat.le_refl _)
  have hn := P.nets
  rw [W.pK] at hn
  refine ⟨hr, ⟨(flTo_length _ _ _ _ _).trans hf.len, P.fits, fun u u0 u1 us ut => ?_⟩, ?_⟩
  · rw [hn u, hf.kept u u0 u1 us ut, if_neg us, if_neg ut]
    omega
  · rw [hn s, if_pos rfl, if_neg (by omega)]
    omega

theorem cut_most {nn N s t : Nat} {es : List GEdge} {fl : List Int} {seen : List Bool} {st : List GStep} {xs : List Int} (hok : okG nn es = true) (hN : es.length = N) (hs : s < nn) (ht : t < nn) (hst : s ≠ t) (hf : IsFlow nn es s t fl) (hb : Bfs es fl nn N s t seen st xs)
    (hd : ∀ u, u < nn → bAt seen u = true → DoneAt es fl N seen u) : IsCut nn s t seen ∧ capac es seen = net es fl s := by
  have hse : ∀ u : Nat, sAt seen (u : Int) = bAt seen u := fun u => rfl
  have hc : IsCut nn s t seen := ⟨by rw [hb.lenS], by rw [hse]; exact hb.src, by rw [hse]; exact hb.notT⟩
  have hE : okEnds nn es s t = true := okEnds_iff.2 ⟨hok, by omega, by omega, by omega, by omega, by omega⟩
  refine ⟨hc, (tight hE hf hc (fun i hi => ?_)).symm⟩
  obtain ⟨a0, a1, b0, b1, _⟩ := okG_at hok hi
  obtain ⟨u, hu⟩ : ∃ u : Nat, (eAt es i).frm = u := ⟨(eAt es i).frm.toNat, by omega⟩
  obtain ⟨v, hv⟩ : ∃ v : Nat, (eAt es i).to = v := ⟨(eAt es i).to.toNat, by omega⟩
  rw [hu, hv, hse, hse]
  refine ⟨fun h1 h2 => ?_, fun h1 h2 => ?_⟩
  · have := (hd u (by omega) h1 i (by omega)).1 hu h2
    rw [hv] at this
    exact this
  · have := (hd v (by omega) h1 i (by omega)).2 hv h2
    rw [hu] at this
    exact this
end Go.Proofs.Ytgfcnkfmgpakkaa
