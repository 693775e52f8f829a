/-
Small things for the walks of replan's laws.
-/
import Derived.Test.YtgfcnkfmgpakkaaGRepL
import Derived.Test.YtgfcnkfmgpakkaaCAdmJ
import Derived.Test.YtgfcnkfmgpakkaaGOpen
import Derived.Test.YtgfcnkfmgpakkaaCOpenU
namespace Go.Proofs.Ytgfcnkfmgpakkaa
open Go.RowKit
set_option linter.unusedVariables false
set_option linter.unusedSimpArgs false
/-- A literal of one number, as a list of the call's own. -/
theorem own_lit1 (w : World) (x : Int) : OwnN (w.alloc (.cells #[.int .i64 x] 3)) w.heap.size (.slice (some ⟨w.heap.size, 0, none⟩) 1 1) [x] :=
  ⟨by simp [encI], .inr ⟨w.heap.size, 1, #[.int .i64 x], rfl, Nat.le_refl _, heap_alloc_new w _, Nat.le_refl _, by unfold maxLen; omega, rfl, by simp [encI]⟩⟩
/-- An empty literal, as a list of the call's own. -/
theorem own_lit0 (w : World) : OwnN (w.alloc (.cells #[] 3)) w.heap.size (.slice (some ⟨w.heap.size, 0, none⟩) 0 0) [] :=
  ⟨by simp, .inr ⟨w.heap.size, 0, #[], rfl, Nat.le_refl _, heap_alloc_new w _, Nat.le_refl _, by unfold maxLen; omega, rfl, by simp⟩⟩
/-- An own list of numbers, that may be written: its first numbers are those of x. -/
def RowX (w : World) (base : Nat) (A : Option Addr) (n c : Nat) (x : Nat → Int) : Prop := 0 < n → ∃ g F, A = some ⟨g, 0, none⟩ ∧ base ≤ g ∧ n ≤ c ∧ Own w g 3 c F ∧ ∀ i, i < n → F i = .int .i64 (x i)
theorem RowX.of {w : World} {base : Nat} {A : Option Addr} {n c : Nat} {xs : List Int} (h : OwnN w base (.slice A n c) xs) (hn : xs.length = n) : RowX w base A n c (fun i => fAt xs i) := by
  intro h0
  rcases h.2 with ⟨h1, h2⟩ | ⟨g, cap, cur, hv, hb, hg, hl, hm, hs, hc⟩
  · omega
  · injection hv with e1 e2 e3
    subst e3
    refine ⟨g, fun i => cur[i]?.getD (.int .i64 0), e1, hb, by omega, ⟨cur, hg, by omega, fun i hi => ?_⟩, fun i hi => ?_⟩
    · have : i < cur.size := by omega
      simp [Array.getElem?_eq_getElem this]
    · have h3 : (xs.flatMap encI)[i]? = some (.int .i64 (fAt xs i)) := by
        have := flatR_at encI_len1 xs i 0 (fAt xs i) (.int .i64 (fAt xs i)) (by unfold fAt; rw [List.getElem?_eq_getElem (by omega)]; rfl) rfl
        simpa using this
      rw [← hc, List.getElem?_take_of_lt (by omega), Array.getElem?_toList] at h3
      dsimp only
      rw [h3]
      rfl
theorem RowX.keep {w w' : World} {base : Nat} {A : Option Addr} {n c : Nat} {x : Nat → Int} (h : RowX w base A n c x) (hb : Below w.heap.size w w') : RowX w' base A n c x := by
  intro h0
  obtain ⟨g, F, e, h1, h2, h3, h4⟩ := h h0
  exact ⟨g, F, e, h1, h2, h3.keep hb h3.lt, h4⟩
theorem RowX.rd {w : World} {base : Nat} {A : Option Addr} {n c : Nat} {x : Nat → Int} (h : RowX w base A n c x) : Rd 1 encI w A (mk n x) := by
  intro h0
  rw [mk_len] at h0
  obtain ⟨g, F, rfl, h1, h2, h3, h4⟩ := h h0
  exact h3.rd (xs := mk n x) (by rw [mk_len]; omega) encI_len1 (fun k y hy j v hv => by
    have hk : k < n := by have := (List.getElem?_eq_some_iff.1 hy).1; rwa [mk_len] at this
    rw [mk_at _ hk] at hy
    injection hy with hy
    rcases j with _ | j
    · simp [encI] at hv
      rw [← hv, ← hy]
      simpa using h4 k hk
    · simp [encI] at hv) (by rw [mk_len]; exact h0)
theorem u8_bd {x : Int} (h : (Lit.int .u8 x).wf = true) : 0 ≤ x ∧ x ≤ 255 := by
  simp [Lit.wf, IntKind.min, IntKind.max, IntKind.signed, IntKind.bits] at h
  omega
theorem u16_bd {x : Int} (h : (Lit.int .u16 x).wf = true) : 0 ≤ x ∧ x ≤ 65535 := by
  simp [Lit.wf, IntKind.min, IntKind.max, IntKind.signed, IntKind.bits] at h
  omega
end Go.Proofs.Ytgfcnkfmgpakkaa
