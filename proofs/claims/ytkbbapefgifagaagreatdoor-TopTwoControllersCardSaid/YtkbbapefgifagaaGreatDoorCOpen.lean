/-
Arguments opened: a slice of rows of any kind, read as a list.
-/
import Derived.Test.YtkbbapefgifagaaGreatDoorGBase
import Derived.ProofKit
import Derived.Deep.Slices
namespace Go.Proofs.YtkbbapefgifagaaGreatDoor
open Go.RowKit Go.ChangeShapes Go.WideShapes Go.Deep

theorem rd_open {H : Type} {henc : TypeId × Value → H} {P : Program} {w : World} {base : Nat} {spare : Nat → Bool} {held : Bool} {α : Type} {sz : Nat} {enc : α → List Value} {ok : α → Prop} {t e : TypeId} {fuel : Nat} {cs : List Value} {x : DataW H × List MemPlace}
    (ht : P.underlying t = some (.slice e)) (hc : P.cellsOf e = sz) (hs : 0 < sz)
    (hel : ∀ n cs' y, DataW.trod henc P w base spare held n e cs' = some y → ∃ a, cs' = enc a ∧ ok a)
    (h : DataW.trod henc P w base spare held fuel t cs = some x) :
    ∃ A len cap xs, cs = [.slice A len cap] ∧ xs.length = len ∧ len ≤ maxLen ∧ Rd sz enc w A xs ∧ ∀ a, a ∈ xs → ok a := by
  rcases open_slice ht h with ⟨h0, _⟩ | ⟨a, len, cap, m, n, D, Pl, hcs, hb, hl, hm, hmm, _, hx⟩
  · exact ⟨none, 0, 0, [], h0, rfl, Nat.zero_le _, Rd.nil, fun _ h => by cases h⟩
  · have hlm : len ≤ m := by rw [hmm]; split <;> omega
    rw [hc] at hx
    have each : ∀ i, i < len → ∃ y : α, ok y ∧ (enc y).length = sz ∧ ∀ j, j < sz → w.cell? (a.add (i * sz + j)) = (enc y)[j]? := by
      intro i hi
      obtain ⟨cs', h1, h2⟩ := hx i (by omega)
      obtain ⟨y, rfl, hy⟩ := hel _ _ _ h2
      obtain ⟨_, hlen, hcell⟩ := World.cells?_some h1
      refine ⟨y, hy, hlen, fun j hj => ?_⟩
      rw [← hcell j hj]
      congr 1
      unfold Addr.add
      by_cases h3 : i * sz = 0 <;> by_cases h4 : j = 0
      · simp [h3, h4]
      · simp [h3, h4]
      · simp [h3, h4]
      · simp [h3, h4]; omega
    have pick : ∀ k, k ≤ len → ∃ xs : List α, xs.length = k ∧ (∀ a, a ∈ xs → ok a) ∧ ∀ i y, xs[i]? = some y → (enc y).length = sz ∧ ∀ j, j < sz → w.cell? (a.add (i * sz + j)) = (enc y)[j]? := by
      intro k
      induction k with
      | zero => exact fun _ => ⟨[], rfl, fun _ h => (by cases h), fun i y h => (by simp at h)⟩
      | succ k ih =>
        intro hk
        obtain ⟨xs, h1, h2, h3⟩ := ih (by omega)
        obtain ⟨y, hy1, hy2, hy3⟩ := each k (by omega)
        refine ⟨xs ++ [y], by simp [h1], fun b hb => ?_, fun i z hz => ?_⟩
        · rcases List.mem_append.1 hb with hb | hb
          · exact h2 b hb
          · simp at hb; subst hb; exact hy1
        · by_cases hi : i < xs.length
          · rw [List.getElem?_append_left hi] at hz
            exact h3 i z hz
          · have hi2 : i = k := by have := (List.getElem?_eq_some_iff.1 hz).1; simp at this; omega
            subst hi2
            rw [List.getElem?_append_right (by omega), h1, Nat.sub_self] at hz
            simp at hz
            subst hz
            exact ⟨hy2, hy3⟩
    obtain ⟨xs, h1, h2, h3⟩ := pick len (Nat.le_refl _)
    refine ⟨some a, len, cap, xs, hcs, h1, by omega, fun h0 => ?_, h2⟩
    obtain ⟨y0, hy0⟩ : ∃ y, xs[0]? = some y := ⟨_, List.getElem?_eq_getElem h0⟩
    obtain ⟨q0, q1⟩ := h3 0 y0 hy0
    have hcell0 : w.cell? a = (enc y0)[0]? := by
      have := q1 0 hs
      simpa [Addr.add] using this
    obtain ⟨v0, hv0⟩ : ∃ v, (enc y0)[0]? = some v := ⟨_, List.getElem?_eq_getElem (by omega)⟩
    rw [hv0] at hcell0
    have hspot : a.spot = none := by
      unfold World.cell? at hcell0
      split at hcell0
      · split at hcell0
        · cases hcell0
        · rename_i h; simpa using h
      · cases hcell0
    refine ⟨a.block, a.off, ?_, World.block_lt_of_cell? w _ hcell0, fun k y hy j v hv => ?_⟩
    · cases a; simp at hspot; subst hspot; rfl
    · obtain ⟨g0, g1⟩ := h3 k y hy
      have hj : j < sz := by have := (List.getElem?_eq_some_iff.1 hv).1; omega
      have := g1 j hj
      rw [hv] at this
      rw [← this]
      congr 1
      unfold Addr.add
      by_cases h4 : k * sz + j = 0
      · rw [if_pos h4]
        cases a
        simp at hspot
        subst hspot
        simp
        omega
      · rw [if_neg h4]
        simp
end Go.Proofs.YtkbbapefgifagaaGreatDoor
