/-
The tree of the site's source, and what is built of it.
-/
import Derived.Test.YtpkonifeieepfaaGreatGPsI
import Derived.Test.YtpkonifeieepfaaGreatCPsU
import Derived.Test.YtpkonifeieepfaaGreatGBuI
import Derived.Test.YtpkonifeieepfaaGreatGLex
namespace Go.Proofs.YtpkonifeieepfaaGreat
open Go.RowKit
set_option linter.unusedVariables false
set_option linter.unusedSimpArgs false
def treeS : List (Nd (Nd Lf)) := [⟨2, ⟨#[102]⟩, 1, 0, [⟨3, ⟨#[108, 105, 109, 105, 116]⟩, 0, 9, [⟨6, ⟨#[]⟩, 100, 15⟩]⟩, ⟨3, ⟨#[110, 101, 117, 116, 114, 97, 108]⟩, 0, 19, [⟨6, ⟨#[]⟩, 60, 27⟩]⟩, ⟨3, ⟨#[102, 117, 115, 101]⟩, 0, 30, [⟨6, ⟨#[]⟩, 50, 35⟩, ⟨6, ⟨#[]⟩, 3000, 38⟩]⟩]⟩, ⟨2, ⟨#[111]⟩, 3, 44, []⟩, ⟨2, ⟨#[120]⟩, 5, 53, [⟨3, ⟨#[97, 116]⟩, 0, 63, [⟨5, ⟨#[102]⟩, 0, 66⟩]⟩, ⟨3, ⟨#[112, 104, 97, 115, 101, 115]⟩, 0, 68, [⟨6, ⟨#[]⟩, 1, 75⟩]⟩, ⟨3, ⟨#[97, 109, 112, 115]⟩, 0, 77, [⟨6, ⟨#[]⟩, 6, 82⟩, ⟨6, ⟨#[]⟩, 32, 84⟩, ⟨6, ⟨#[]⟩, 1, 87⟩]⟩, ⟨3, ⟨#[102, 97, 108, 108, 98, 97, 99, 107]⟩, 0, 89, [⟨6, ⟨#[]⟩, 0, 98⟩]⟩, ⟨3, ⟨#[111, 119, 110, 101, 114]⟩, 0, 100, [⟨5, ⟨#[111]⟩, 0, 106⟩]⟩]⟩, ⟨2, ⟨#[121]⟩, 5, 109, [⟨3, ⟨#[97, 116]⟩, 0, 119, [⟨5, ⟨#[102]⟩, 0, 122⟩]⟩, ⟨3, ⟨#[112, 104, 97, 115, 101, 115]⟩, 0, 124, [⟨6, ⟨#[]⟩, 1, 131⟩]⟩, ⟨3, ⟨#[97, 109, 112, 115]⟩, 0, 133, [⟨6, ⟨#[]⟩, 6, 138⟩, ⟨6, ⟨#[]⟩, 32, 140⟩, ⟨6, ⟨#[]⟩, 1, 143⟩]⟩, ⟨3, ⟨#[102, 97, 108, 108, 98, 97, 99, 107]⟩, 0, 145, [⟨6, ⟨#[]⟩, 6, 154⟩]⟩, ⟨3, ⟨#[111, 119, 110, 101, 114]⟩, 0, 156, [⟨5, ⟨#[111]⟩, 0, 162⟩]⟩]⟩]
def rootS : Nd (Nd (Nd Lf)) := ⟨1, ⟨#[]⟩, 0, 0, treeS⟩
set_option maxRecDepth 100000 in
theorem itemsS : itemsP toksS 50 0 = some treeS := by kernel_rfl
set_option maxRecDepth 100000 in
theorem szS : decide (szR rootS ≤ 1500) = true := by kernel_rfl
set_option maxRecDepth 100000 in
theorem no7S : (List.range toksS.length).all (fun p => match itemP toksS p with
  | some x => decide (x.1.n ≠ 7)
  | none => true) = true := by kernel_rfl
theorem no7 {p q : Nat} {x : Nd (Nd Lf)} (h : itemP toksS p = some (x, q)) : x.n ≠ 7 := by
  have hp : p < toksS.length := by
    by_cases hp : p < toksS.length
    · exact hp
    · unfold itemP at h
      rw [List.getElem?_eq_none (by omega)] at h
      cases h
  have h1 := List.all_eq_true.1 no7S p (List.mem_range.2 hp)
  rw [h] at h1
  exact of_decide_eq_true h1
theorem okNameS {b : UInt8} (h : 97 ≤ b.toNat ∧ b.toNat ≤ 122) (hk : ¬ [b] ∈ keyL) : okNameB keyL ⟨#[b]⟩ = true := by
  rw [okNameB_iff]
  refine ⟨⟨Nat.le_refl _, (by show 1 ≤ 12; omega), h, fun i h0 h1 => ?_⟩, ?_⟩
  · have h1' : i < 1 := h1
    omega
  · rw [ByteArray.toList_eq]
    exact hk
/-- A name of one letter. -/
def nm1 : ByteArray → Bool
  | ⟨⟨[b]⟩⟩ => decide (97 ≤ b.toNat ∧ b.toNat ≤ 122) && !keyL.contains [b]
  | _ => false
theorem nm1_ok {s : ByteArray} (h : nm1 s = true) : okNameB keyL s = true ∧ s.size = 1 := by
  unfold nm1 at h
  split at h
  · rename_i b
    simp only [Bool.and_eq_true, decide_eq_true_eq, Bool.not_eq_true', Bool.eq_false_iff] at h
    exact ⟨okNameS h.1 (fun hm => h.2 (List.contains_iff_mem.2 hm)), rfl⟩
  · cases h
def nm0 : ByteArray → Bool
  | ⟨⟨[]⟩⟩ => true
  | _ => false
theorem nm0_ok {s : ByteArray} (h : nm0 s = true) : s = ⟨#[]⟩ := by
  unfold nm0 at h
  split at h
  · rfl
  · cases h
def vfD (x : Lf) : Bool := (x.kind == 5 && x.n == 0 && nm1 x.name) || (x.kind == 6 && nm0 x.name && decide (0 ≤ x.n ∧ x.n ≤ 1000000))
theorem vfD_ok {x : Lf} (h : vfD x = true) : VfOk false x := by
  unfold vfD at h
  simp only [Bool.or_eq_true, Bool.and_eq_true, beq_iff_eq, decide_eq_true_eq] at h
  rcases h with ⟨⟨h1, h2⟩, h3⟩ | ⟨⟨h1, h2⟩, h3⟩
  · exact .inl ⟨h1, h2, by rw [(nm1_ok h3).2]; omega, .inl (nm1_ok h3).1⟩
  · exact .inr ⟨h1, nm0_ok h2, h3⟩
def vpD (x : Nd Lf) : Bool := x.n == 0 && x.kind == 3 && inD attrL x.name && x.kids.all vfD
theorem vpD_ok {x : Nd Lf} (h : vpD x = true) : VpOk false x := by
  unfold vpD at h
  simp only [Bool.and_eq_true, beq_iff_eq, List.all_eq_true] at h
  exact ⟨h.1.1.1, .inl ⟨rfl, h.1.1.2, by rw [inD_eq]; exact h.1.2⟩, fun y hy => vfD_ok (h.2 y hy)⟩
def viD (x : Nd (Nd Lf)) : Bool := x.kind == 2 && decide (1 ≤ x.n ∧ x.n ≤ 7) && nm1 x.name && x.kids.all vpD
theorem viD_ok {x : Nd (Nd Lf)} (h : viD x = true) : ViOk x := by
  unfold viD at h
  simp only [Bool.and_eq_true, beq_iff_eq, List.all_eq_true, decide_eq_true_eq] at h
  exact ⟨h.1.1.1, h.1.1.2.1, h.1.1.2.2, by rw [(nm1_ok h.1.2).2]; omega, (nm1_ok h.1.2).1, false, ⟨(fun e => nomatch e), fun y hy => vpD_ok (h.2 y hy)⟩⟩
set_option maxRecDepth 100000 in
theorem vrS : (decide (treeS.length + (treeS.map costI).sum ≤ 1499) && treeS.all viD) = true := by kernel_rfl
theorem vrS_ok : VrOk rootS := by
  have h := vrS
  simp only [Bool.and_eq_true, List.all_eq_true, decide_eq_true_eq] at h
  exact ⟨rfl, rfl, rfl, h.1, fun y hy => viD_ok (h.2 y hy)⟩
def siS : GSite := ⟨[⟨⟨#[102]⟩, -1, 100, 60, 50, 3000, 0, 0, 0, 0, 0⟩], [⟨#[111]⟩], [], [⟨⟨#[120]⟩, 0, 1, 6, 32, 1, 0, 0⟩, ⟨⟨#[121]⟩, 0, 1, 6, 32, 1, 6, 0⟩], []⟩
def bS : BSt := ⟨siS.cons, siS.owns, siS.chgs, true, [(⟨#[121]⟩, 5, 1), (⟨#[120]⟩, 5, 0), (⟨#[111]⟩, 3, 0), (⟨#[102]⟩, 1, 0)], [[102], [111], [120], [121]]⟩
set_option maxRecDepth 100000 in
theorem runS : runI treeS startB = some bS := by kernel_rfl
set_option maxRecDepth 100000 in
theorem kidsS : treeS.all (fun y => decide (y.kids.length ≤ 2000)) = true := by kernel_rfl
set_option maxRecDepth 100000 in
theorem namesS : (allNames siS).all (fun y => decide (y.size ≤ 8000)) = true := by kernel_rfl
theorem sizeS : decide (srcS.size ≤ 8000 ∧ toksS.length ≤ 1900) = true := by kernel_rfl
set_option maxRecDepth 100000 in
theorem parseS (w : World) : Calls Tryz.prog 10 #[.string srcS] w (PrsPost w rootS) :=
  paParse_ok srcS 160 toksS 50 treeS w (of_decide_eq_true sizeS).1 lexS (of_decide_eq_true sizeS).2 itemsS (of_decide_eq_true szS) (Lib.hid (fun R aT nT cT p q x W hit hM =>
    paItemF_ok R aT nT cT toksS srcS.size p q x W (Lib.hid hM) hit (no7 hit)))
theorem buildS (h : NH) (lo hi : Nat) (w : World) (hok : okNd (okNd (okNd okLf)) w lo hi h rootS) (hhi : hi ≤ w.heap.size) : Calls Tryz.prog 11 #[nhV h] w (BuPost w siS) :=
  stBuild_ok h rootS lo hi bS w hok hhi vrS_ok runS rfl (fun y hy => of_decide_eq_true (List.all_eq_true.1 kidsS y hy)) (show 4 ≤ 90 by decide) (fun y hy => Nat.le_trans (of_decide_eq_true (List.all_eq_true.1 namesS y hy)) (by unfold maxLen; omega))
end Go.Proofs.YtpkonifeieepfaaGreat
