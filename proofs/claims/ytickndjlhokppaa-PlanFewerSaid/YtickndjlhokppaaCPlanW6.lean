/-
What the law PlanFewer needs: parts of a slice, a list whose one job is changed in place, easier jobs.
-/
import Derived.Test.YtickndjlhokppaaCPlanW3
import Derived.Test.YtickndjlhokppaaCPlanW4
import Derived.Test.YtickndjlhokppaaCPlanW5
namespace Go.Proofs.Ytickndjlhokppaa
open Go.RowKit
set_option linter.unusedVariables false
theorem Rd.takeN {α : Type} {sz : Nat} {enc : α → List Value} {w : World} {A : Option Addr} {xs : List α} (h : Rd sz enc w A xs) (n : Nat) : Rd sz enc w A (xs.take n) := by
  intro h0
  have : 0 < xs.length := by rw [List.length_take] at h0; omega
  obtain ⟨b, off, e, hlt, hc⟩ := h this
  refine ⟨b, off, e, hlt, fun k x hx j v hv => hc k x ?_ j v hv⟩
  by_cases hk : k < n
  · rwa [List.getElem?_take_of_lt hk] at hx
  · rw [List.getElem?_eq_none (by rw [List.length_take]; omega)] at hx
    cases hx
theorem Rd.dropN {α : Type} {sz : Nat} {enc : α → List Value} {w : World} {b off : Nat} {xs : List α} (h : Rd sz enc w (some ⟨b, off, none⟩) xs) (n : Nat) : Rd sz enc w (some ⟨b, off + n * sz, none⟩) (xs.drop n) := by
  intro h0
  have : 0 < xs.length := by rw [List.length_drop] at h0; omega
  obtain ⟨b', off', e, hlt, hc⟩ := h this
  injection e with e
  injection e with e1 e2
  subst e1 e2
  refine ⟨_, _, rfl, hlt, fun k x hx j v hv => ?_⟩
  rw [List.getElem?_drop] at hx
  have := hc (n + k) x hx j v hv
  rw [Nat.add_mul] at this
  rw [← this]
  congr 2
  omega
/-- The block of an own list. -/
theorem OwnR.own {α : Type} {t : TypeId} {sz : Nat} {enc : α → List Value} {w : World} {base : Nat} {v : Value} {xs : List α} (hsz : ∀ x, (enc x).length = sz) (h : OwnR t sz enc w base v xs) (h0 : 0 < xs.length) :
    ∃ g cap f, v = .slice (some ⟨g, 0, none⟩) xs.length cap ∧ base ≤ g ∧ xs.length ≤ cap ∧ Own w g t (cap * sz) f ∧ ∀ k x, xs[k]? = some x → ∀ j u, (enc x)[j]? = some u → f (k * sz + j) = u := by
  rcases h.2 with ⟨_, hn⟩ | ⟨g, cap, cur, hv, hb, hg, hle, _, hcs, hcur⟩
  · omega
  refine ⟨g, cap, fun i => cur[i]?.getD undef, hv, hb, hle, ⟨cur, hg, hcs, fun i hi => by rw [Array.getElem?_eq_getElem (by omega)]; simp [Array.getElem?_eq_getElem (show i < cur.size by omega)]⟩, ?_⟩
  intro k x hx j u hu
  have h1 := flatR_at hsz xs k j x u hx hu
  have h2 : k * sz + j < xs.length * sz := by
    have hk := (List.getElem?_eq_some_iff.1 hx).1
    have hj := (List.getElem?_eq_some_iff.1 hu).1
    rw [hsz] at hj
    have : k * sz + sz ≤ xs.length * sz := by rw [← Nat.succ_mul]; exact Nat.mul_le_mul_right _ hk
    omega
  have h3 : cur.toList[k * sz + j]? = some u := by
    rw [← h1, ← hcur, List.getElem?_take_of_lt (by first | exact h2 | simpa using h2)]
  show cur[k * sz + j]?.getD undef = u
  rw [← Array.getElem?_toList, h3]
  rfl
/-- A job whose four numbers are changed. -/
def chJ (j : GJob) (a b e r : Int) : GJob := ⟨a, b, e, r, j.rank⟩
theorem changed_rd {W : World} {g cap q : Nat} {f : Nat → Value} {js : List GJob} (ho : Own W g 38 (cap * 5) f) (hf : ∀ k x, js[k]? = some x → ∀ j u, (encJ x)[j]? = some u → f (k * 5 + j) = u) (hc : js.length ≤ cap) (hq : q < js.length) (a b e r : Int) :
    Rd 5 encJ ((((W.setCell ⟨g, q * 5 + 2, none⟩ (.int .i64 e)).setCell ⟨g, q * 5 + 3, none⟩ (.int .i64 r)).setCell ⟨g, q * 5, none⟩ (.int .i64 a)).setCell ⟨g, q * 5 + 1, none⟩ (.int .i64 b)) (some ⟨g, 0, none⟩) (js.set q (chJ (jAt js q) a b e r)) := by
  refine ((((ho.set (q * 5 + 2) (.int .i64 e)).set (q * 5 + 3) (.int .i64 r)).set (q * 5) (.int .i64 a)).set (q * 5 + 1) (.int .i64 b)).rd (by rw [List.length_set]; exact Nat.mul_le_mul_right _ hc) encJ_len5 (fun k x hx j v hv => ?_)
  have hj : j < 5 := (List.getElem?_eq_some_iff.1 hv).1
  by_cases hk : k = q
  · subst hk
    rw [List.getElem?_set_self hq] at hx
    injection hx with hx
    subst hx
    have hjq : js[k]? = some (jAt js k) := by rw [jAt_lt hq]; exact List.getElem?_eq_getElem hq
    have h4 := hf k _ hjq 4 _ rfl
    match j, hj with
    | 0, _ => simp [encJ, chJ] at hv ⊢; rw [← hv]
    | 1, _ => simp [encJ, chJ] at hv ⊢; rw [← hv]
    | 2, _ => simp [encJ, chJ] at hv ⊢; rw [← hv]
    | 3, _ => simp [encJ, chJ] at hv ⊢; rw [← hv]
    | 4, _ =>
      simp [encJ, chJ] at hv
      rw [if_neg (by omega), if_neg (by omega), if_neg (by omega), if_neg (by omega), h4, ← hv]
  · rw [List.getElem?_set_ne (fun e => hk e.symm)] at hx
    rw [if_neg (by omega), if_neg (by omega), if_neg (by omega), if_neg (by omega)]
    exact hf k x hx j v hv
theorem jAt_set {js : List GJob} {q i : Nat} {x : GJob} (hq : q < js.length) : jAt (js.set q x) i = if i = q then x else jAt js i := by
  unfold jAt
  by_cases e : i = q
  · subst e
    rw [List.getElem?_set_self hq, if_pos rfl]
    rfl
  · rw [List.getElem?_set_ne (fun h => e h.symm), if_neg e]
theorem okP_without {js : List GJob} {sup : List Int} (h : okP js sup = true) (q : Nat) : okP (js.take q ++ js.drop (q + 1)) sup = true := by
  obtain ⟨⟨h1, h2⟩, h3, h4⟩ := okP_iff.1 h
  refine okP_iff.2 ⟨⟨?_, h2⟩, h3, fun j hj => h4 j ?_⟩
  · rw [List.length_append, List.length_take, List.length_drop]; omega
  · rcases List.mem_append.1 hj with hj | hj
    · exact List.mem_of_mem_take hj
    · exact List.mem_of_mem_drop hj
/-- Easier: the job at q needs less, its rate and its slots are greater; more supply. -/
theorem okP_easier {js : List GJob} {sup sup' : List Int} {q : Nat} {a b e r : Int} (h : okP js sup = true) (hq : q < js.length) (hs : sup'.length = sup.length) (hsup : ∀ t, t < sup.length → 0 ≤ fAt sup' t ∧ fAt sup' t ≤ 1000)
    (ha : 0 ≤ a) (hab : a ≤ b) (hb : b ≤ sup.length) (he : 0 ≤ e ∧ e ≤ 1000) (hr : 0 ≤ r ∧ r ≤ 1000) : okP (js.set q (chJ (jAt js q) a b e r)) sup' = true := by
  refine okP_of (by rw [List.length_set]; exact (okP_iff.1 h).1.1) (by rw [hs]; exact (okP_iff.1 h).1.2) (fun t ht => hsup t (by omega)) (fun i hi => ?_)
  rw [List.length_set] at hi
  rw [jAt_set hq, hs]
  have h1 := okJ_iff.1 (okJ_at h (i := i) hi)
  by_cases c : i = q
  · subst c
    rw [if_pos rfl]
    refine okJ_iff.2 ?_
    unfold chJ
    dsimp only
    omega
  · rw [if_neg c]
    exact okJ_iff.2 h1
theorem met_easier {js : List GJob} {sup sup' : List Int} {q : Nat} {a b e r : Int} (hq : q < js.length) (hs : sup'.length = sup.length) (hsup : ∀ t, t < sup.length → fAt sup t ≤ fAt sup' t) (hok : okP js sup = true)
    (ha : a ≤ (jAt js q).frm) (hb : (jAt js q).till ≤ b) (he : 0 ≤ e ∧ e ≤ (jAt js q).energy) (hr : (jAt js q).rate ≤ r) (h : Met js sup) : Met (js.set q (chJ (jAt js q) a b e r)) sup' := by
  refine h.mono (List.length_set ..) hs (fun i hi => ?_) (fun i hi => ?_) (fun i t hi ht x => ?_) hsup
  · rw [jAt_set hq]
    by_cases c : i = q
    · subst c; rw [if_pos rfl]; exact he
    · rw [if_neg c]
      have := (okP_job hok hi).2.2.2.1
      omega
  · rw [jAt_set hq]
    by_cases c : i = q
    · subst c; rw [if_pos rfl]; exact hr
    · rw [if_neg c]; omega
  · rw [jAt_set hq]
    by_cases c : i = q
    · subst c
      rw [if_pos rfl]
      unfold inJ chJ at *
      dsimp only
      omega
    · rw [if_neg c]; exact x
end Go.Proofs.Ytickndjlhokppaa
