/-
Plain facts on proofs: sums of two lists of currents; one ampere more.
-/
import Derived.Test.YtpkonifeieepfaaGreatGLPrV
namespace Go.Proofs.YtpkonifeieepfaaGreat
open Go.RowKit
set_option linter.unusedVariables false
set_option linter.unusedSimpArgs false
def addL (xs ys : List Int) : List Int := rowN (fun i => fI xs i + fI ys i) xs.length
theorem fI_rowT {f : Nat → Int} {n i : Nat} (h : i < n) : fI (rowN f n) i = f i := by unfold fI rowN; rw [List.getElem?_map, List.getElem?_range h]; rfl
theorem load_add {s : GSite} {xs ys : List Int} (hx : xs.length = s.chgs.length) (j : Nat) : loadS s (fI (addL xs ys)) s.chgs.length j = loadS s (fI xs) s.chgs.length j + loadS s (fI ys) s.chgs.length j := by
  unfold loadS
  rw [← S_add]
  refine S_congr (fun i hi => ?_)
  unfold addL
  rw [fI_rowT (by omega)]
  unfold pick
  split <;> omega
theorem loadB_iff' {s : GSite} {xs : List Int} (h : loadB s xs = true) : OkSite keyL s ∧ xs.length = s.chgs.length ∧ ∀ i, i < xs.length → 0 ≤ fI xs i ∧ fI xs i ≤ 80 := by
  unfold loadB at h
  rw [Bool.and_eq_true] at h
  exact ⟨okSB_iff.1 h.1, curB_iff.1 h.2⟩
theorem load_pos {s : GSite} {xs : List Int} (h : loadB s xs = true) (j : Nat) : 0 ≤ loadS s (fI xs) s.chgs.length j := by
  obtain ⟨_, h1, h2⟩ := loadB_iff' h
  unfold loadS
  refine S_nonneg (fun i hi => ?_)
  have := h2 i (by omega)
  unfold pick
  split <;> omega
theorem vio_none {s : GSite} {xs : List Int} (h : loadB s xs = true) (hv : vioO s xs = none) {t : Nat} (ht : t < s.cons.length * 3) : loadS s (fI xs) s.chgs.length t ≤ limAt s (t / 3) := by
  unfold vioO at hv
  rw [if_pos h, List.find?_eq_none] at hv
  have h1 := hv t (List.mem_range.2 ht)
  unfold chkL at h1
  rw [decide_eq_true_eq] at h1
  omega
theorem vio_none_of {s : GSite} {xs : List Int} (h : loadB s xs = true) (hv : ∀ t, t < s.cons.length * 3 → loadS s (fI xs) s.chgs.length t ≤ limAt s (t / 3)) : vioO s xs = none :=
  vioO_all h (fun t ht => by unfold chkL; rw [decide_eq_false_iff_not]; have := hv t ht; omega)
theorem pvR_ok {s : GSite} {xs : List Int} {ps : List R3} {ws : List Int} {er : Int} (h : PvR s xs ps ws er) (hl : loadB s xs = true) (hv : vioO s xs = none) : ps = loadsOf s xs ∧ er = 0 := by
  rcases h with ⟨h, _⟩ | ⟨_, t, h, _⟩ | ⟨_, _, h1, _, h3⟩
  · rw [hl] at h; cases h
  · rw [hv] at h; cases h
  · exact ⟨h1, h3⟩
theorem pvR_0 {s : GSite} {xs : List Int} {ps : List R3} {ws : List Int} {er : Int} (h : PvR s xs ps ws er) (h0 : er = 0) : loadB s xs = true ∧ vioO s xs = none ∧ ps = loadsOf s xs := by
  rcases h with ⟨_, _, _, h⟩ | ⟨_, t, _, _, h, _⟩ | ⟨h1, h2, h3, _, _⟩
  · omega
  · omega
  · exact ⟨h1, h2, h3⟩
theorem pvR_er {s : GSite} {xs : List Int} {ps : List R3} {ws : List Int} {er : Int} (h : PvR s xs ps ws er) : er = 1 ∨ er = 13 ∨ er = 0 := by
  rcases h with ⟨_, _, _, h⟩ | ⟨_, t, _, _, h, _⟩ | ⟨h1, h2, h3, _, h⟩
  · exact .inl h
  · exact .inr (.inl h)
  · exact .inr (.inr h)
/-- If a proof exists for the sums, it exists for each list. -/
theorem add_vio {s : GSite} {xs ys : List Int} (hx : loadB s xs = true) (hy : loadB s ys = true) (hb : loadB s (addL xs ys) = true) (hv : vioO s (addL xs ys) = none) : vioO s xs = none ∧ vioO s ys = none := by
  have hl := (loadB_iff' hx).2.1
  constructor
  · refine vio_none_of hx (fun t ht => ?_)
    have h1 := vio_none hb hv ht
    rw [load_add hl] at h1
    have := load_pos hy t
    omega
  · refine vio_none_of hy (fun t ht => ?_)
    have h1 := vio_none hb hv ht
    rw [load_add hl] at h1
    have := load_pos hx t
    omega
theorem S_pos_le {n : Nat} {g : Nat → Int} {c : Int} (h : ∀ i, i < n → 0 ≤ g i ∧ g i ≤ c) : 0 ≤ S n g ∧ S n g ≤ n * c := ⟨S_nonneg (fun i hi => (h i hi).1), S_bound (fun i hi => (h i hi).2)⟩
theorem load_bd {s : GSite} {xs : List Int} (h : loadB s xs = true) (j : Nat) : 0 ≤ loadS s (fI xs) s.chgs.length j ∧ loadS s (fI xs) s.chgs.length j ≤ 1280 := by
  obtain ⟨hk, h1, h2⟩ := loadB_iff' h
  refine ⟨load_pos h j, ?_⟩
  have h3 : loadS s (fI xs) s.chgs.length j ≤ s.chgs.length * 80 := by
    unfold loadS
    refine S_bound (fun i hi => ?_)
    have := h2 i (by omega)
    unfold pick
    split <;> omega
  have := hk.n5
  have h4 : ((s.chgs.length : Nat) : Int) * 80 ≤ 16 * 80 := Int.mul_le_mul_of_nonneg_right (by omega) (by omega)
  omega
end Go.Proofs.YtpkonifeieepfaaGreat
