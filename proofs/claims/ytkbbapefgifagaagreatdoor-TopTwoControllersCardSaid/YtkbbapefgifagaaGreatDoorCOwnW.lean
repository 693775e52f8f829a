/-
Lists of the call's own that are written: what their cells hold.
-/
import Derived.Test.YtkbbapefgifagaaGreatDoorGBase
import Derived.Test.YtkbbapefgifagaaGreatDoorGLApp
import Derived.Test.YtkbbapefgifagaaGreatDoorGLSiteR
namespace Go.Proofs.YtkbbapefgifagaaGreatDoor
open Go.RowKit
set_option linter.unusedVariables false
set_option linter.unusedSimpArgs false
theorem OwnR.open_ {α : Type} {t : TypeId} {sz : Nat} {enc : α → List Value} {w : World} {base : Nat} {v : Value} {xs : List α} (hsz : ∀ x, (enc x).length = sz) (h : OwnR t sz enc w base v xs) (h0 : 0 < xs.length) :
    ∃ g cap F, v = .slice (some ⟨g, 0, none⟩) xs.length cap ∧ base ≤ g ∧ xs.length ≤ cap ∧ cap ≤ maxLen ∧ Own w g t (cap * sz) F ∧ ∀ k x j u, xs[k]? = some x → (enc x)[j]? = some u → F (k * sz + j) = u := by
  rcases h.2 with ⟨h1, h2⟩ | ⟨g, cap, cur, hv, hb, hg, hl, hm, hs, hc⟩
  · omega
  · refine ⟨g, cap, fun i => cur[i]?.getD (.int .i64 0), hv, hb, hl, hm, ⟨cur, hg, by omega, fun i hi => ?_⟩, fun k x j u hx hu => ?_⟩
    · have : i < cur.size := by omega
      simp [Array.getElem?_eq_getElem this]
    · have h3 := flatR_at hsz xs k j x u hx hu
      have hk := (List.getElem?_eq_some_iff.1 hx).1
      have hj : j < sz := by rw [← hsz x]; exact (List.getElem?_eq_some_iff.1 hu).1
      have hlt : k * sz + j < xs.length * sz := by
        have : k * sz + sz ≤ xs.length * sz := by rw [← Nat.succ_mul]; exact Nat.mul_le_mul_right _ hk
        omega
      rw [← hc, List.getElem?_take_of_lt hlt, Array.getElem?_toList] at h3
      dsimp only
      rw [h3]
      rfl
theorem encCon_one (c : GCon) (u : Value) (h : u ∈ encCon c) : u.oneCell' = true := by
  simp [encCon] at h
  rcases h with rfl | rfl | rfl | rfl | rfl | rfl | rfl | rfl | rfl | rfl | rfl <;> rfl
theorem infoCond : (Tryz.prog.info? 72).map (fun i => (i.zero, i.size, i.bytes)) = some (some (.agg #[.string ⟨#[]⟩, .int .i64 0, .int .i64 0, .int .i64 0, .int .i64 0, .int .i64 0, .int .i64 0, .int .i64 0, .int .i64 0, .int .i64 0, .int .i64 0]), 11, 96) := by kernel_rfl
theorem app_conds {w : World} {base : Nat} {v : Value} {xs ys : List GCon} {A : Option Addr} {m c : Nat} (h : OwnR 72 11 encCon w base v xs) (hy : Rd 11 encCon w A ys) (hym : ys.length = m) (hb : base ≤ w.heap.size) (hl : xs.length + m ≤ 1000) :
    Appends Tryz.prog w 33 33 v (.slice A m c) ∧ ∃ v' w1, appV Tryz.prog w 33 33 v (.slice A m c) = v' ∧ appW Tryz.prog w 33 33 v (.slice A m c) = w1 ∧ Hid (OwnR 72 11 encCon w1 base v' (xs ++ ys)) ∧ Hid (Aside base v v' w w1) :=
  app_argR infoCond Tryz.underlying33 rfl (by omega) encCon_len encCon_one h hy hym hb (by unfold maxLen; omega) (Nat.le_trans (Nat.mul_le_mul hl (Nat.le_refl 96)) (by omega))
end Go.Proofs.YtkbbapefgifagaaGreatDoor
