/-
The example of the law's head: plain facts.
-/
import Derived.Test.YtjlfnhfiiailgaaCLawA
namespace Go.Proofs.Ytjlfnhfiiailgaa
open Go.RowKit
set_option linter.unusedVariables false
set_option linter.unusedSimpArgs false
def hCon (nm : ByteArray) (up : Int) : GCon := ⟨nm, up, 100, 100, 0, 0, 0, 0, 0, 0, 0⟩
def hChg (nm : ByteArray) (pl ph : Int) : GChg := ⟨nm, pl, ph, 6, 32, 1, 0, 0⟩
def headS : GSite := ⟨[hCon ⟨#[102]⟩ (-1), hCon ⟨#[97]⟩ 0, hCon ⟨#[98]⟩ 0, hCon ⟨#[99]⟩ 1], [⟨#[111]⟩], [], [hChg ⟨#[112]⟩ 3 7, hChg ⟨#[113]⟩ 2 1, hChg ⟨#[114]⟩ 0 4], []⟩
theorem okName1 {b : UInt8} (h : 97 ≤ b.toNat ∧ b.toNat ≤ 122) (hk : ¬ [b] ∈ keyL) : okNameB keyL ⟨#[b]⟩ = true := by
  rw [okNameB_iff]
  refine ⟨⟨Nat.le_refl _, (by show 1 ≤ 12; omega), h, fun i h0 h1 => ?_⟩, ?_⟩
  · have h1' : i < 1 := h1
    omega
  · rw [ByteArray.toList_eq]
    exact hk
theorem headS_ok : OkSite keyL headS := by
  refine ⟨by decide, by decide, by decide, by decide, by decide, by decide, ⟨?_, ?_⟩, ?_, ?_, by decide, ?_, ?_⟩
  · intro x hx
    have hx' : x ∈ [(⟨#[102]⟩ : ByteArray), ⟨#[97]⟩, ⟨#[98]⟩, ⟨#[99]⟩, ⟨#[111]⟩, ⟨#[112]⟩, ⟨#[113]⟩, ⟨#[114]⟩] := hx
    simp only [List.mem_cons, List.not_mem_nil, or_false] at hx'
    rcases hx' with rfl | rfl | rfl | rfl | rfl | rfl | rfl | rfl <;> exact okName1 (by decide) (by decide)
  · have e : (allNames headS).map (·.toList) = [[102], [97], [98], [99], [111], [112], [113], [114]] := by
      show [(⟨#[102]⟩ : ByteArray), ⟨#[97]⟩, ⟨#[98]⟩, ⟨#[99]⟩, ⟨#[111]⟩, ⟨#[112]⟩, ⟨#[113]⟩, ⟨#[114]⟩].map (·.toList) = _
      simp only [List.map_cons, List.map_nil, ByteArray.toList_eq]
    rw [e]
    decide
  · intro i c hc
    match i, hc with
    | 0, hc => cases hc; decide
    | 1, hc => cases hc; decide
    | 2, hc => cases hc; decide
    | 3, hc => cases hc; decide
    | i + 4, hc => cases hc
  · intro c hc; cases hc
  · intro c hc
    have hc' : c ∈ [hChg ⟨#[112]⟩ 3 7, hChg ⟨#[113]⟩ 2 1, hChg ⟨#[114]⟩ 0 4] := hc
    simp only [List.mem_cons, List.not_mem_nil, or_false] at hc'
    rcases hc' with rfl | rfl | rfl <;> decide
  · intro c hc; cases hc
theorem headS_B : okSB keyL headS = true := okSB_iff.2 headS_ok
theorem hd_p0 : pathO headS 0 = [3, 1, 0] := by rw [pathO_yes (okCh_yes headS_B (by decide))]; rfl
theorem hd_p1 : pathO headS 1 = [2, 0] := by rw [pathO_yes (okCh_yes headS_B (by decide))]; rfl
theorem hd_p2 : pathO headS 2 = [0] := by rw [pathO_yes (okCh_yes headS_B (by decide))]; rfl
theorem hd_p3 : pathO headS 3 = [] := pathO_no (okCh_no2 (by decide))
theorem hd_c0 : okCh headS 0 = true := okCh_yes headS_B (by decide)
theorem hd_c1 : okCh headS 1 = true := okCh_yes headS_B (by decide)
theorem hd_c2 : okCh headS 2 = true := okCh_yes headS_B (by decide)
theorem hd_c3 : okCh headS 3 = false := okCh_no2 (by decide)
theorem hd_l3 : loadB headS [16, 10, 8] = true := loadB_yes headS_B (by decide)
theorem hd_l2 : loadB headS [16, 10] = false := loadB_no2 (by decide)
theorem hd_L3 : loadsO headS [16, 10, 8] = [(26, 16, 24), (16, 16, 16), (10, 0, 0), (16, 16, 16)] := by rw [loadsO_yes hd_l3]; rfl
theorem hd_L2 : loadsO headS [16, 10] = [] := loadsO_no hd_l2
theorem hd_o0 : okCo headS 0 = true := okCo_yes headS_B (by decide)
theorem hd_o1 : okCo headS 1 = true := okCo_yes headS_B (by decide)
theorem hd_b0 : belowO headS 0 = [0, 1, 2] := by rw [belowO_yes hd_o0]; rfl
theorem hd_b1 : belowO headS 1 = [0] := by rw [belowO_yes hd_o1]; rfl
theorem flatMap_at {α : Type} {sz : Nat} {enc : α → List Value} (hsz : ∀ x, (enc x).length = sz) : ∀ (xs : List α) (k : Nat) (x : α) (j : Nat), xs[k]? = some x → j < sz → (xs.flatMap enc)[k * sz + j]? = (enc x)[j]?
  | [], k, x, j, h, _ => by simp at h
  | y :: ys, 0, x, j, h, hj => by
    simp at h
    subst h
    rw [List.flatMap_cons, Nat.zero_mul, Nat.zero_add, List.getElem?_append_left (by rw [hsz]; exact hj)]
  | y :: ys, k + 1, x, j, h, hj => by
    rw [List.getElem?_cons_succ] at h
    rw [List.flatMap_cons, List.getElem?_append_right (by rw [hsz, Nat.succ_mul]; omega), hsz, show (k + 1) * sz + j - sz = k * sz + j by rw [Nat.succ_mul]; omega]
    exact flatMap_at hsz ys k x j h hj
/-- A literal slice, read. -/
theorem rd_lit {α : Type} {sz : Nat} {enc : α → List Value} (hsz : ∀ x, (enc x).length = sz) (W : World) (t : TypeId) (cs : Array Value) (xs : List α) (h : cs.toList = xs.flatMap enc) : Rd sz enc (W.alloc (.cells cs t)) (some ⟨W.heap.size, 0, none⟩) xs := by
  have hcs : cs = (xs.flatMap enc).toArray := by rw [← h]
  refine (Own.new W t cs undef).rd (sz := sz) ?_ hsz (fun k x hx j v hv => ?_)
  · have : cs.size = (xs.flatMap enc).length := by rw [hcs]; simp
    rw [this]
    clear h hcs this
    induction xs with
    | nil => simp
    | cons x xs ih => rw [List.flatMap_cons, List.length_append, hsz, List.length_cons, Nat.succ_mul]; omega
  · have hj : j < sz := by rw [← hsz x]; exact (List.getElem?_eq_some_iff.1 hv).1
    have := flatMap_at hsz xs k x j hx hj
    rw [hcs, List.getElem?_toArray, this, hv]
    rfl
end Go.Proofs.Ytjlfnhfiiailgaa
