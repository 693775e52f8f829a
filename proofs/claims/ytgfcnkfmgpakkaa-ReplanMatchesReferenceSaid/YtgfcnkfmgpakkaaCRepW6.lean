/-
Parts of lists of numbers; a list of cuts with an empty one behind it.
-/
import Derived.Test.YtgfcnkfmgpakkaaCRepW0
import Derived.Test.YtgfcnkfmgpakkaaGOpen
namespace Go.Proofs.Ytgfcnkfmgpakkaa
open Go.RowKit
set_option linter.unusedVariables false
set_option linter.unusedSimpArgs false
theorem rd_drop {w : World} {b off : Nat} {xs : List Int} (h : Rd 1 encI w (some ⟨b, off, none⟩) xs) (n : Nat) : Rd 1 encI w (some ⟨b, off + n, none⟩) (xs.drop n) := by
  intro h0
  have : 0 < xs.length := by rw [List.length_drop] at h0; omega
  obtain ⟨b', off', e, hlt, hc⟩ := h this
  injection e with e
  injection e with e1 e2
  subst e1 e2
  refine ⟨_, _, rfl, hlt, fun k x hx j v hv => ?_⟩
  rw [List.getElem?_drop] at hx
  have := hc (n + k) x hx j v hv
  rw [← this]
  congr 2
  omega
theorem OwnR.len_le' {α : Type} {t : TypeId} {sz : Nat} {enc : α → List Value} {w : World} {base n c : Nat} {a : Option Addr} {xs : List α} (h : OwnR t sz enc w base (.slice a n c) xs) (hn : xs.length = n) : n ≤ c := by
  rcases h.2 with ⟨h1, h2⟩ | ⟨g, cap, cur, hv, hb, hg, hl, hm, hs, hc⟩
  · omega
  · injection hv with _ _ h3
    omega
theorem OwnR.cap_le' {α : Type} {t : TypeId} {sz : Nat} {enc : α → List Value} {w : World} {base : Nat} {v : Value} {xs : List α} (h : OwnR t sz enc w base v xs) : ∀ a n c, v = .slice a n c → c ≤ 9223372036854775807 := by
  intro a n c e
  subst e
  exact h.cap_le
def cut0 : CutV := ⟨none, 0, 0, none, 0, 0⟩
theorem ownC_lit0 (w : World) : OwnR 30 2 encCut (w.alloc (.cells #[] 30)) w.heap.size (.slice (some ⟨w.heap.size, 0, none⟩) 0 0) [] :=
  ⟨by simp, .inr ⟨w.heap.size, 0, #[], rfl, Nat.le_refl _, heap_alloc_new w _, Nat.le_refl _, by unfold maxLen; omega, rfl, by simp⟩⟩
theorem RdC.snoc0 {w w' : World} {A a : Option Addr} {vs : List CutV} {C : List (List Int × List Int)} (h : RdC w A vs C) (hb : Below w.heap.size w w') (r : Rd 2 encCut w' a (vs ++ [cut0])) : RdC w' a (vs ++ [cut0]) (C ++ [([], [])]) := by
  refine ⟨r, by rw [List.length_append, List.length_append, h.len]; rfl, fun k u x h1 h2 => ?_⟩
  rcases Nat.lt_or_ge k vs.length with hk | hk
  · rw [List.getElem?_append_left hk] at h1
    rw [List.getElem?_append_left (by rw [← h.len]; exact hk)] at h2
    exact (h.row k u x h1 h2).keep hb
  · rw [List.getElem?_append_right hk] at h1
    rw [List.getElem?_append_right (by rw [← h.len]; exact hk)] at h2
    have hk0 : k - vs.length = 0 := by
      rcases hz : k - vs.length with _ | m
      · rfl
      · rw [hz] at h1; simp at h1
    rw [hk0] at h1
    rw [← h.len, hk0] at h2
    simp at h1 h2
    subst h1 h2
    exact ⟨rfl, by decide, Rd.nil, rfl, by decide, Rd.nil⟩
end Go.Proofs.Ytgfcnkfmgpakkaa
