/-
Several texts in one: SiteF, SiteG0, SiteG.
-/
import Derived.Test.YtoekpdnpncgeeaaGreatGLSiteV
import Derived.Test.YtoekpdnpncgeeaaGreatGLSiteR
import Derived.Test.YtoekpdnpncgeeaaGreatGBase
/-
The reference's names; walked.
-/
namespace Go.Proofs.YtoekpdnpncgeeaaGreat
open Go.RowKit
set_option linter.unusedVariables false
set_option linter.unusedSimpArgs false
/-- A text in a list of texts. -/
noncomputable def inTs (l : List ByteArray) (s : ByteArray) : Bool := inB (l.map (·.toList)) s
theorem inTs_iff {l : List ByteArray} {s : ByteArray} : inTs l s = true ↔ ∃ x, x ∈ l ∧ x.toList = s.toList := by
  unfold inTs
  rw [inB_iff, List.mem_map]
theorem rd_texts (w : World) (l : List ByteArray) : Rd 1 encS (w.alloc (.cells (l.map Value.string).toArray 9)) (some ⟨w.heap.size, 0, none⟩) l := by
  intro h0
  refine ⟨w.heap.size, 0, rfl, by simp, fun k x hx j v hv => ?_⟩
  have hj : j = 0 := by
    rcases j with _ | j
    · rfl
    · simp [encS] at hv
  subst hj
  simp [encS] at hv
  rw [World.cell?_alloc_new, ← hv]
  simp [hx]
def kindsT : List ByteArray := [⟨#[102, 101, 101, 100, 101, 114]⟩, ⟨#[99, 97, 98, 108, 101]⟩, ⟨#[111, 119, 110, 101, 114]⟩, ⟨#[99, 111, 110, 116, 114, 97, 99, 116]⟩, ⟨#[99, 104, 97, 114, 103, 101, 114]⟩, ⟨#[98, 97, 121]⟩, ⟨#[116, 97, 114, 105, 102, 102]⟩]
theorem kindsT_map : kindsT.map (·.toList) = kindL := by
  unfold kindsT kindL
  simp [ByteArray.toList_eq]
def attrsT : List ByteArray := [⟨#[108, 105, 109, 105, 116]⟩, ⟨#[110, 101, 117, 116, 114, 97, 108]⟩, ⟨#[102, 117, 115, 101]⟩, ⟨#[116, 104, 101, 114, 109, 97, 108]⟩, ⟨#[102, 114, 111, 109]⟩, ⟨#[97, 116]⟩, ⟨#[112, 104, 97, 115, 101, 115]⟩, ⟨#[97, 109, 112, 115]⟩, ⟨#[102, 97, 108, 108, 98, 97, 99, 107]⟩, ⟨#[111, 119, 110, 101, 114]⟩, ⟨#[99, 97, 114, 100]⟩, ⟨#[114, 97, 110, 107]⟩, ⟨#[99, 104, 97, 114, 103, 101, 114]⟩]
theorem attrsT_map : attrsT.map (·.toList) = attrL := by
  unfold attrsT attrL
  simp [ByteArray.toList_eq]
def articlesT : List ByteArray := [⟨#[115, 116, 97, 114, 116]⟩, ⟨#[101, 110, 101, 114, 103, 121]⟩, ⟨#[116, 105, 109, 101]⟩, ⟨#[105, 100, 108, 101]⟩, ⟨#[99, 97, 112]⟩, ⟨#[116, 97, 120]⟩]
theorem articlesT_map : articlesT.map (·.toList) = artL := by
  unfold articlesT artL
  simp [ByteArray.toList_eq]
def wordsT : List ByteArray := [⟨#[111, 110]⟩, ⟨#[119, 111, 114, 107]⟩, ⟨#[115, 97, 116, 117, 114, 100, 97, 121]⟩, ⟨#[115, 117, 110, 100, 97, 121]⟩, ⟨#[98, 101, 116, 119, 101, 101, 110]⟩, ⟨#[112, 101, 114]⟩, ⟨#[102, 114, 101, 101]⟩]
theorem wordsT_map : wordsT.map (·.toList) = wordL := by
  unfold wordsT wordL
  simp [ByteArray.toList_eq]
theorem mem_keyL {s : ByteArray} : s.toList ∈ keyL ↔ (inTs kindsT s = true ∨ inTs attrsT s = true ∨ inTs articlesT s = true ∨ inTs wordsT s = true) := by
  unfold inTs
  rw [kindsT_map, attrsT_map, articlesT_map, wordsT_map, inB_iff, inB_iff, inB_iff, inB_iff]
  unfold keyL
  simp only [List.mem_append, or_assoc]
end Go.Proofs.YtoekpdnpncgeeaaGreat
/-
The drawn region of the reference's names.
-/
namespace Go.Proofs.YtoekpdnpncgeeaaGreat
open Go.RowKit
set_option linter.unusedVariables false
set_option linter.unusedSimpArgs false
theorem Rd.takeG {α : Type} {sz : Nat} {enc : α → List Value} {w : World} {A : Option Addr} {xs : List α} (h : Rd sz enc w A xs) (n : Nat) : Rd sz enc w A (xs.take n) := by
  intro h0
  have : 0 < xs.length := by rw [List.length_take] at h0; omega
  obtain ⟨b, off, e, hlt, hc⟩ := h this
  refine ⟨b, off, e, hlt, fun k x hx j v hv => hc k x ?_ j v hv⟩
  by_cases hk : k < n
  · rwa [List.getElem?_take_of_lt hk] at hx
  · rw [List.getElem?_eq_none (by rw [List.length_take]; omega)] at hx
    cases hx
end Go.Proofs.YtoekpdnpncgeeaaGreat
/-
The reference's names, walked.
-/
namespace Go.Proofs.YtoekpdnpncgeeaaGreat
open Go.RowKit
set_option linter.unusedVariables false
set_option linter.unusedSimpArgs false
noncomputable def okNamesB (keys : List (List UInt8)) (l : List ByteArray) : Bool := @decide (okNamesP keys l) (Classical.propDecidable _)
theorem okNamesB_iff {keys : List (List UInt8)} {l : List ByteArray} : okNamesB keys l = true ↔ okNamesP keys l := @decide_eq_true_iff _ (Classical.propDecidable _)
theorem okNamesB_yes {keys : List (List UInt8)} {l : List ByteArray} (h : okNamesP keys l) : true = okNamesB keys l := (okNamesB_iff.2 h).symm
theorem okNamesB_no {keys : List (List UInt8)} {l : List ByteArray} (h : ¬ okNamesP keys l) : false = okNamesB keys l := by
  cases e : okNamesB keys l
  · rfl
  · exact absurd (okNamesB_iff.1 e) h
end Go.Proofs.YtoekpdnpncgeeaaGreat
