/-
Plain: proofs (sums that are great enough, and not too great).
-/
import Derived.Test.YtbalhbpaholakaaCTreeSum
import Derived.Test.YtbalhbpaholakaaCLimF0
namespace Go.Proofs.Ytbalhbpaholakaa
open Go.RowKit
set_option linter.unusedVariables false
set_option linter.unusedSimpArgs false
/-- What a sum has to reach. -/
def needP (s : GSite) (f : Nat → Int) (P : Nat → Int) (c p : Nat) : Int := ownA s f c s.chgs.length p + fromB s P c s.cons.length p
def okPr (s : GSite) (f : Nat → Int) (P : Nat → Int) : Prop := ∀ c, c < s.cons.length → ∀ p, p < 3 → needP s f P c p ≤ P (c * 3 + p) ∧ P (c * 3 + p) ≤ limAt s c
/-- A list of three numbers each as one row of numbers. -/
def F3 (ps : List R3) (j : Nat) : Int := match ps[j / 3]? with
  | none => 0
  | some r => if j % 3 = 0 then r.1 else if j % 3 = 1 then r.2.1 else r.2.2
noncomputable def prB (s : GSite) (xs : List Int) (ps : List R3) : Bool := loadB s xs && @decide (ps.length = s.cons.length ∧ okPr s (fI xs) (F3 ps)) (Classical.propDecidable _)
theorem prB_iff {s : GSite} {xs : List Int} {ps : List R3} : prB s xs ps = true ↔ (loadB s xs = true ∧ ps.length = s.cons.length ∧ okPr s (fI xs) (F3 ps)) := by
  unfold prB
  rw [Bool.and_eq_true, @decide_eq_true_iff _ (Classical.propDecidable _)]
theorem prB_yes {s : GSite} {xs : List Int} {ps : List R3} (h1 : loadB s xs = true) (h2 : ps.length = s.cons.length) (h3 : okPr s (fI xs) (F3 ps)) : prB s xs ps = true := prB_iff.2 ⟨h1, h2, h3⟩
theorem prB_no {s : GSite} {xs : List Int} {ps : List R3} (h : ¬ (loadB s xs = true ∧ ps.length = s.cons.length ∧ okPr s (fI xs) (F3 ps))) : prB s xs ps = false := by
  cases e : prB s xs ps
  · rfl
  · exact absurd (prB_iff.1 e) h
theorem F3_row {ps : List R3} : (List.range ps.length).map (row3 (F3 ps)) = ps := by
  apply List.ext_getElem?
  intro i
  rw [List.getElem?_map]
  by_cases h : i < ps.length
  · rw [List.getElem?_range h, List.getElem?_eq_getElem h]
    show some (row3 (F3 ps) i) = _
    unfold row3 F3
    rw [show (i * 3) / 3 = i by omega, show (i * 3 + 1) / 3 = i by omega, show (i * 3 + 2) / 3 = i by omega, show (i * 3) % 3 = 0 by omega, show (i * 3 + 1) % 3 = 1 by omega, show (i * 3 + 2) % 3 = 2 by omega, List.getElem?_eq_getElem h]
    rfl
  · rw [List.getElem?_eq_none (by simpa using h), List.getElem?_eq_none (by omega)]
    rfl
theorem F3_of {F : Nat → Int} {n k p : Nat} (hk : k < n) (hp : p < 3) : F3 ((List.range n).map (row3 F)) (k * 3 + p) = F (k * 3 + p) := by
  unfold F3
  rw [show (k * 3 + p) / 3 = k by omega, show (k * 3 + p) % 3 = p by omega, List.getElem?_map, List.getElem?_range hk]
  show (if p = 0 then F (k * 3) else if p = 1 then F (k * 3 + 1) else F (k * 3 + 2)) = _
  match p, hp with
  | 0, _ => rfl
  | 1, _ => rfl
  | 2, _ => rfl
theorem okPr_congr {s : GSite} {f : Nat → Int} {P Q : Nat → Int} (e : ∀ c p, c < s.cons.length → p < 3 → P (c * 3 + p) = Q (c * 3 + p)) (h : okPr s f P) : okPr s f Q := by
  intro c hc p hp
  have h1 := h c hc p hp
  have h2 : needP s f P c p = needP s f Q c p := by
    unfold needP fromB
    congr 1
    exact S_congr (fun i hi => by rw [e i p hi hp])
  rw [← e c p hc hp, ← h2]
  exact h1
theorem ownA_mono {s : GSite} {f g : Nat → Int} (c m p : Nat) (h : ∀ i, i < m → f i ≤ g i) : ownA s f c m p ≤ ownA s g c m p := by
  unfold ownA
  refine S_le (fun i hi => ?_)
  have := h i hi
  unfold pick
  split <;> omega
/-- A right proof's sums are at least the loads. -/
theorem okPr_load {s : GSite} (hk : OkSite keyL s) {f g : Nat → Int} {P : Nat → Int} (h : okPr s g P) (hf : ∀ i, i < s.chgs.length → f i ≤ g i) : ∀ (d c : Nat), c < s.cons.length → s.cons.length - c ≤ d → ∀ p, p < 3 → loadS s f s.chgs.length (c * 3 + p) ≤ P (c * 3 + p)
  | 0, c, hc, hd, p, hp => by omega
  | d + 1, c, hc, hd, p, hp => by
    have h1 := (h c hc p hp).1
    rw [load_sum hk f c p hp]
    unfold needP at h1
    have h2 : ownA s f c s.chgs.length p ≤ ownA s g c s.chgs.length p := ownA_mono c _ p hf
    have h3 : fromB s (loadS s f s.chgs.length) c s.cons.length p ≤ fromB s P c s.cons.length p := by
      unfold fromB
      refine S_le (fun i hi => ?_)
      by_cases e : upAt s.cons i = (c : Int)
      · rw [pick_pos e, pick_pos e]
        have h4 := hk.ups i hi
        exact okPr_load hk h hf d i hi (by omega) p hp
      · rw [pick_neg e, pick_neg e]
        exact Int.le_refl _
    omega
theorem okPr_loadS {s : GSite} (hk : OkSite keyL s) {f g : Nat → Int} {P : Nat → Int} (h : okPr s g P) (hf : ∀ i, i < s.chgs.length → f i ≤ g i) {c p : Nat} (hc : c < s.cons.length) (hp : p < 3) : loadS s f s.chgs.length (c * 3 + p) ≤ P (c * 3 + p) :=
  okPr_load hk h hf (s.cons.length - c) c hc (Nat.le_refl _) p hp
theorem okPr_less {s : GSite} {f g : Nat → Int} {P : Nat → Int} (h : okPr s g P) (hf : ∀ i, i < s.chgs.length → f i ≤ g i) : okPr s f P := by
  intro c hc p hp
  have h1 := h c hc p hp
  have h2 : ownA s f c s.chgs.length p ≤ ownA s g c s.chgs.length p := ownA_mono c _ p hf
  unfold needP at *
  exact ⟨by omega, h1.2⟩
theorem chk_none {s : GSite} {xs : List Int} (hx : loadB s xs = true) (h : vioO s xs = none) {c p : Nat} (hc : c < s.cons.length) (hp : p < 3) : loadS s (fI xs) s.chgs.length (c * 3 + p) ≤ limAt s c := by
  unfold vioO at h
  rw [if_pos hx] at h
  have h1 := List.find?_eq_none.1 h (c * 3 + p) (List.mem_range.2 (by omega))
  unfold chkL at h1
  rw [show (c * 3 + p) / 3 = c by omega] at h1
  simp only [decide_eq_true_eq] at h1
  omega
/-- Nothing below the tops exceeds a limit. -/
theorem prB_sound {s : GSite} {xs ys : List Int} {ps : List R3} (h : prB s xs ps = true) (hy : loadB s ys = true) (hf : ∀ i, i < s.chgs.length → fI ys i ≤ fI xs i) : vioO s ys = none := by
  obtain ⟨h1, h2, h3⟩ := prB_iff.1 h
  have hk : OkSite keyL s := by
    unfold loadB at h1
    rw [Bool.and_eq_true] at h1
    exact okSB_iff.1 h1.1
  refine vioO_all hy (fun t ht => ?_)
  have hp : t % 3 < 3 := by omega
  have hc : t / 3 < s.cons.length := by omega
  have h4 := okPr_loadS hk h3 hf hc hp
  have h5 := (h3 (t / 3) hc (t % 3) hp).2
  rw [show t / 3 * 3 + t % 3 = t by omega] at h4 h5
  unfold chkL
  simp only [decide_eq_false_iff_not]
  omega
/-- The loads prove it. -/
theorem prB_loads {s : GSite} {xs : List Int} (hx : loadB s xs = true) (h : vioO s xs = none) : prB s xs (loadsOf s xs) = true := by
  have hk : OkSite keyL s := by
    unfold loadB at hx
    rw [Bool.and_eq_true] at hx
    exact okSB_iff.1 hx.1
  refine prB_yes hx (loadsOf_len _ _) ?_
  refine okPr_congr (P := loadS s (fI xs) s.chgs.length) (fun c p hc hp => (F3_of hc hp).symm) ?_
  intro c hc p hp
  refine ⟨?_, chk_none hx h hc hp⟩
  unfold needP
  rw [load_sum hk (fI xs) c p hp]
  exact Int.le_refl _
/-- A proof whose sums are made less is not right. -/
theorem prB_least {s : GSite} {xs : List Int} {ps : List R3} {c p : Nat} (hc : c < s.cons.length) (hp : p < 3) {b : Int} (hb : 0 < b) (hl : ps.length = s.cons.length) (hx : ∀ d q, d < s.cons.length → q < 3 → F3 ps (d * 3 + q) = loadS s (fI xs) s.chgs.length (d * 3 + q) - (if d = c ∧ q = p then b else 0)) : prB s xs ps = false := by
  refine prB_no (fun ⟨h1, h2, h3⟩ => ?_)
  have hk : OkSite keyL s := by
    unfold loadB at h1
    rw [Bool.and_eq_true] at h1
    exact okSB_iff.1 h1.1
  have h4 := (h3 c hc p hp).1
  unfold needP at h4
  have h5 : fromB s (F3 ps) c s.cons.length p = fromB s (loadS s (fI xs) s.chgs.length) c s.cons.length p := by
    unfold fromB
    refine S_congr (fun i hi => ?_)
    by_cases e : upAt s.cons i = (c : Int)
    · rw [pick_pos e, pick_pos e, hx i p hi hp, if_neg (fun h => ?_)]
      · omega
      · have := hk.ups i hi
        have := h.1
        subst this
        omega
    · rw [pick_neg e, pick_neg e]
  rw [h5, ← load_sum hk (fI xs) c p hp, hx c p hc hp, if_pos ⟨rfl, rfl⟩] at h4
  omega
end Go.Proofs.Ytbalhbpaholakaa
