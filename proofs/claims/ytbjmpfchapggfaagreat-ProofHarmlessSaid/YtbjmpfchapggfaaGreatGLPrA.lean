/-
Several texts in one: TreeSum, PrMath, PrWit, PrA, PrSum, PrLess.
-/
import Derived.Test.YtbjmpfchapggfaaGreatGLTreeE
import Derived.Test.YtbjmpfchapggfaaGreatGLTreeA
import Derived.Test.YtbjmpfchapggfaaGreatGLLimD
import Derived.Test.YtbjmpfchapggfaaGreatGLSortP
/-
Plain: a load is what the chargers on the conductor draw and what leads from it.
-/
namespace Go.Proofs.YtbjmpfchapggfaaGreat
open Go.RowKit
set_option linter.unusedVariables false
set_option linter.unusedSimpArgs false
theorem mem_sum {cs : List GCon} (hu : OkUps cs) (k : Nat) (x : Int) : ∀ c, c < cs.length → pick (k ∈ pth cs (c : Int)) x = pick (c = k) x + S cs.length (fun i => pick (upAt cs i = (k : Int) ∧ i ∈ pth cs (c : Int)) x) := by
  refine pth_ind hu (fun h0 => ?_) (fun c u hc hlt hup ih => ?_)
  · have e : S cs.length (fun i => pick (upAt cs i = (k : Int) ∧ i ∈ pth cs ((0 : Nat) : Int)) x) = 0 := by
      rw [S_congr (h := fun _ => 0) (fun i hi => ?_), S_zero]
      refine pick_neg ?_ _
      rw [show ((0 : Nat) : Int) = 0 from rfl, pth_zero hu h0]
      rintro ⟨h1, h2⟩
      have : i = 0 := by simpa using h2
      subst this
      have h3 := hu 0 h0
      omega
    rw [e, show ((0 : Nat) : Int) = 0 from rfl, pth_zero hu h0, Int.add_zero]
    unfold pick
    by_cases h : k = 0
    · simp [h]
    · rw [if_neg (by simpa using h), if_neg (fun h2 => h h2.symm)]
  · have hcu : ¬ c ∈ pth cs (u : Int) := fun h => by have := pth_le hu u (by omega) c h; omega
    have e : S cs.length (fun i => pick (upAt cs i = (k : Int) ∧ i ∈ pth cs (c : Int)) x) = pick (u = k) x + S cs.length (fun i => pick (upAt cs i = (k : Int) ∧ i ∈ pth cs (u : Int)) x) := by
      rw [S_congr (h := fun i => (if i = c then pick (u = k) x else 0) + pick (upAt cs i = (k : Int) ∧ i ∈ pth cs (u : Int)) x) (fun i hi => ?_), S_add, S_single (k := c) hc (fun i _ h => if_neg h), if_pos rfl]
      rw [pth_step hu hc hup]
      unfold pick
      by_cases h : i = c
      · subst h
        rw [if_pos rfl, if_neg (c := upAt cs i = (k : Int) ∧ i ∈ pth cs (u : Int)) (fun h => hcu h.2), Int.add_zero, hup]
        by_cases h2 : u = k
        · rw [if_pos ⟨by omega, by simp⟩, if_pos h2]
        · rw [if_neg (fun h => h2 (by omega)), if_neg h2]
      · rw [if_neg h, Int.zero_add]
        by_cases h2 : upAt cs i = (k : Int) ∧ i ∈ pth cs (u : Int)
        · rw [if_pos h2, if_pos ⟨h2.1, List.mem_cons_of_mem _ h2.2⟩]
        · rw [if_neg h2, if_neg (fun h3 => h2 ⟨h3.1, (List.mem_cons.1 h3.2).resolve_left h⟩)]
    rw [e, ← ih, pth_step hu hc hup]
    unfold pick
    by_cases h : k = c
    · have : ¬ k ∈ pth cs (u : Int) := by rw [h]; exact hcu
      rw [if_pos (by simp [h]), if_pos h.symm, if_neg this, Int.add_zero]
    · rw [if_neg (c := c = k) (fun h2 => h h2.symm), Int.zero_add]
      by_cases h2 : k ∈ pth cs (u : Int)
      · rw [if_pos h2, if_pos (List.mem_cons_of_mem _ h2)]
      · rw [if_neg h2, if_neg (fun h3 => h2 ((List.mem_cons.1 h3).resolve_left h))]
/-- What the chargers on a conductor draw on a phase. -/
def ownA (s : GSite) (f : Nat → Int) (k m p : Nat) : Int := S m (fun c => pick (placeOf s c = k ∧ bitP (phOf s c) p = true) (f c))
/-- What leads from a conductor. -/
def fromB (s : GSite) (L : Nat → Int) (k m p : Nat) : Int := S m (fun i => pick (upAt s.cons i = (k : Int)) (L (i * 3 + p)))
theorem ownA_succ (s : GSite) (f : Nat → Int) (k m p : Nat) : ownA s f k (m + 1) p = ownA s f k m p + pick (placeOf s m = k ∧ bitP (phOf s m) p = true) (f m) := rfl
theorem fromB_succ (s : GSite) (L : Nat → Int) (k m p : Nat) : fromB s L k (m + 1) p = fromB s L k m p + pick (upAt s.cons m = (k : Int)) (L (m * 3 + p)) := rfl
theorem load_sum {s : GSite} (hk : OkSite keyL s) (f : Nat → Int) (k p : Nat) (hp : p < 3) : loadS s f s.chgs.length (k * 3 + p) = ownA s f k s.chgs.length p + fromB s (loadS s f s.chgs.length) k s.cons.length p := by
  have e1 : fromB s (loadS s f s.chgs.length) k s.cons.length p = S s.chgs.length (fun c => S s.cons.length (fun i => pick (upAt s.cons i = (k : Int)) (pick (onB s c i p = true) (f c)))) := by
    unfold fromB
    rw [← S_swap]
    refine S_congr (fun i _ => ?_)
    unfold loadS
    rw [show (i * 3 + p) / 3 = i by omega, show (i * 3 + p) % 3 = p by omega]
    unfold pick
    split
    · rfl
    · exact (S_zero _).symm
  rw [e1]
  unfold ownA loadS
  rw [← S_add]
  refine S_congr (fun c hc => ?_)
  obtain ⟨p1, p2, p3⟩ := hk.place (List.getElem?_eq_getElem hc)
  have hm := mem_sum hk.ups k (pick (bitP (phOf s c) p = true) (f c)) (placeOf s c) (by omega)
  rw [show (k * 3 + p) / 3 = k by omega, show (k * 3 + p) % 3 = p by omega]
  have h1 : ∀ j, pick (onB s c j p = true) (f c) = pick (j ∈ pth s.cons (placeOf s c : Nat)) (pick (bitP (phOf s c) p = true) (f c)) := fun j => by
    unfold onB pick
    cases bitP (phOf s c) p
    · simp
    · simp
  have h2 : pick (placeOf s c = k ∧ bitP (phOf s c) p = true) (f c) = pick (placeOf s c = k) (pick (bitP (phOf s c) p = true) (f c)) := by
    unfold pick
    by_cases a : placeOf s c = k
    · by_cases b : bitP (phOf s c) p = true
      · rw [if_pos ⟨a, b⟩, if_pos a, if_pos b]
      · rw [if_neg (fun h => b h.2), if_pos a, if_neg b]
    · rw [if_neg (fun h => a h.1), if_neg a]
  rw [h1, h2, hm]
  congr 1
  refine S_congr (fun i _ => ?_)
  rw [h1]
  unfold pick
  by_cases a : upAt s.cons i = (k : Int)
  · by_cases b : i ∈ pth s.cons (placeOf s c : Nat)
    · rw [if_pos ⟨a, b⟩, if_pos a, if_pos b]
    · rw [if_neg (fun h => b h.2), if_pos a, if_neg b]
  · rw [if_neg (fun h => a h.1), if_neg a]
theorem ownA_bd {s : GSite} {f : Nat → Int} (hf : ∀ c, 0 ≤ f c ∧ f c ≤ 80) (k m p : Nat) : 0 ≤ ownA s f k m p ∧ ownA s f k m p ≤ m * 80 := by
  unfold ownA
  constructor
  · refine S_nonneg (fun c _ => ?_)
    have := hf c
    unfold pick
    split <;> omega
  · refine S_bound (fun c _ => ?_)
    have := hf c
    unfold pick
    split <;> omega
theorem fromB_bd {s : GSite} {L : Nat → Int} {c : Nat} (hL : ∀ j, 0 ≤ L j ∧ L j ≤ c) (k m p : Nat) : 0 ≤ fromB s L k m p ∧ fromB s L k m p ≤ m * (c : Int) := by
  unfold fromB
  constructor
  · refine S_nonneg (fun i _ => ?_)
    have := hL (i * 3 + p)
    unfold pick
    split <;> omega
  · refine S_bound (fun i _ => ?_)
    have := hL (i * 3 + p)
    unfold pick
    split <;> omega
end Go.Proofs.YtbjmpfchapggfaaGreat
/-
Plain: proofs (sums that are great enough, and not too great).
-/
namespace Go.Proofs.YtbjmpfchapggfaaGreat
open Go.RowKit
set_option linter.unusedVariables false
set_option linter.unusedSimpArgs false
/-- What a sum has to reach. -/
def needP (s : GSite) (f : Nat → Int) (P : Nat → Int) (c p : Nat) : Int := ownA s f c s.chgs.length p + fromB s P c s.cons.length p
def okPr (s : GSite) (f : Nat → Int) (P : Nat → Int) : Prop := ∀ c, c < s.cons.length → ∀ p, p < 3 → needP s f P c p ≤ P (c * 3 + p) ∧ P (c * 3 + p) ≤ limAt s c
/-- A list of three numbers each as one row of numbers. -/
def F3 (ps : List R3) (j : Nat) : Int := match ps[j / 3]? with
  | none => 0
  | some r => if j % 3 = 0 then r.1 else if j % 3 = 1 then r.2.1 else r.2.2
noncomputable def prB (s : GSite) (xs : List Int) (ps : List R3) : Bool := loadB s xs && @decide (ps.length = s.cons.length ∧ okPr s (fI xs) (F3 ps)) (Classical.propDecidable _)
theorem prB_iff {s : GSite} {xs : List Int} {ps : List R3} : prB s xs ps = true ↔ (loadB s xs = true ∧ ps.length = s.cons.length ∧ okPr s (fI xs) (F3 ps)) := by
  unfold prB
  rw [Bool.and_eq_true, @decide_eq_true_iff _ (Classical.propDecidable _)]
theorem prB_yes {s : GSite} {xs : List Int} {ps : List R3} (h1 : loadB s xs = true) (h2 : ps.length = s.cons.length) (h3 : okPr s (fI xs) (F3 ps)) : prB s xs ps = true := prB_iff.2 ⟨h1, h2, h3⟩
theorem prB_no {s : GSite} {xs : List Int} {ps : List R3} (h : ¬ (loadB s xs = true ∧ ps.length = s.cons.length ∧ okPr s (fI xs) (F3 ps))) : prB s xs ps = false := by
  cases e : prB s xs ps
  · rfl
  · exact absurd (prB_iff.1 e) h
theorem F3_row {ps : List R3} : (List.range ps.length).map (row3 (F3 ps)) = ps := by
  apply List.ext_getElem?
  intro i
  rw [List.getElem?_map]
  by_cases h : i < ps.length
  · rw [List.getElem?_range h, List.getElem?_eq_getElem h]
    show some (row3 (F3 ps) i) = _
    unfold row3 F3
    rw [show (i * 3) / 3 = i by omega, show (i * 3 + 1) / 3 = i by omega, show (i * 3 + 2) / 3 = i by omega, show (i * 3) % 3 = 0 by omega, show (i * 3 + 1) % 3 = 1 by omega, show (i * 3 + 2) % 3 = 2 by omega, List.getElem?_eq_getElem h]
    rfl
  · rw [List.getElem?_eq_none (by simpa using h), List.getElem?_eq_none (by omega)]
    rfl
theorem F3_of {F : Nat → Int} {n k p : Nat} (hk : k < n) (hp : p < 3) : F3 ((List.range n).map (row3 F)) (k * 3 + p) = F (k * 3 + p) := by
  unfold F3
  rw [show (k * 3 + p) / 3 = k by omega, show (k * 3 + p) % 3 = p by omega, List.getElem?_map, List.getElem?_range hk]
  show (if p = 0 then F (k * 3) else if p = 1 then F (k * 3 + 1) else F (k * 3 + 2)) = _
  match p, hp with
  | 0, _ => rfl
  | 1, _ => rfl
  | 2, _ => rfl
theorem okPr_congr {s : GSite} {f : Nat → Int} {P Q : Nat → Int} (e : ∀ c p, c < s.cons.length → p < 3 → P (c * 3 + p) = Q (c * 3 + p)) (h : okPr s f P) : okPr s f Q := by
  intro c hc p hp
  have h1 := h c hc p hp
  have h2 : needP s f P c p = needP s f Q c p := by
    unfold needP fromB
    congr 1
    exact S_congr (fun i hi => by rw [e i p hi hp])
  rw [← e c p hc hp, ← h2]
  exact h1
theorem ownA_mono {s : GSite} {f g : Nat → Int} (c m p : Nat) (h : ∀ i, i < m → f i ≤ g i) : ownA s f c m p ≤ ownA s g c m p := by
  unfold ownA
  refine S_le (fun i hi => ?_)
  have := h i hi
  unfold pick
  split <;> omega
/-- A right proof's sums are at least the loads. -/
theorem okPr_load {s : GSite} (hk : OkSite keyL s) {f g : Nat → Int} {P : Nat → Int} (h : okPr s g P) (hf : ∀ i, i < s.chgs.length → f i ≤ g i) : ∀ (d c : Nat), c < s.cons.length → s.cons.length - c ≤ d → ∀ p, p < 3 → loadS s f s.chgs.length (c * 3 + p) ≤ P (c * 3 + p)
  | 0, c, hc, hd, p, hp => by omega
  | d + 1, c, hc, hd, p, hp => by
    have h1 := (h c hc p hp).1
    rw [load_sum hk f c p hp]
    unfold needP at h1
    have h2 : ownA s f c s.chgs.length p ≤ ownA s g c s.chgs.length p := ownA_mono c _ p hf
    have h3 : fromB s (loadS s f s.chgs.length) c s.cons.length p ≤ fromB s P c s.cons.length p := by
      unfold fromB
      refine S_le (fun i hi => ?_)
      by_cases e : upAt s.cons i = (c : Int)
      · rw [pick_pos e, pick_pos e]
        have h4 := hk.ups i hi
        exact okPr_load hk h hf d i hi (by omega) p hp
      · rw [pick_neg e, pick_neg e]
        exact Int.le_refl _
    omega
theorem okPr_loadS {s : GSite} (hk : OkSite keyL s) {f g : Nat → Int} {P : Nat → Int} (h : okPr s g P) (hf : ∀ i, i < s.chgs.length → f i ≤ g i) {c p : Nat} (hc : c < s.cons.length) (hp : p < 3) : loadS s f s.chgs.length (c * 3 + p) ≤ P (c * 3 + p) :=
  okPr_load hk h hf (s.cons.length - c) c hc (Nat.le_refl _) p hp
theorem okPr_less {s : GSite} {f g : Nat → Int} {P : Nat → Int} (h : okPr s g P) (hf : ∀ i, i < s.chgs.length → f i ≤ g i) : okPr s f P := by
  intro c hc p hp
  have h1 := h c hc p hp
  have h2 : ownA s f c s.chgs.length p ≤ ownA s g c s.chgs.length p := ownA_mono c _ p hf
  unfold needP at *
  exact ⟨by omega, h1.2⟩
theorem chk_none {s : GSite} {xs : List Int} (hx : loadB s xs = true) (h : vioO s xs = none) {c p : Nat} (hc : c < s.cons.length) (hp : p < 3) : loadS s (fI xs) s.chgs.length (c * 3 + p) ≤ limAt s c := by
  unfold vioO at h
  rw [if_pos hx] at h
  have h1 := List.find?_eq_none.1 h (c * 3 + p) (List.mem_range.2 (by omega))
  unfold chkL at h1
  rw [show (c * 3 + p) / 3 = c by omega] at h1
  simp only [decide_eq_true_eq] at h1
  omega
/-- Nothing below the tops exceeds a limit. -/
theorem prB_sound {s : GSite} {xs ys : List Int} {ps : List R3} (h : prB s xs ps = true) (hy : loadB s ys = true) (hf : ∀ i, i < s.chgs.length → fI ys i ≤ fI xs i) : vioO s ys = none := by
  obtain ⟨h1, h2, h3⟩ := prB_iff.1 h
  have hk : OkSite keyL s := by
    unfold loadB at h1
    rw [Bool.and_eq_true] at h1
    exact okSB_iff.1 h1.1
  refine vioO_all hy (fun t ht => ?_)
  have hp : t % 3 < 3 := by omega
  have hc : t / 3 < s.cons.length := by omega
  have h4 := okPr_loadS hk h3 hf hc hp
  have h5 := (h3 (t / 3) hc (t % 3) hp).2
  rw [show t / 3 * 3 + t % 3 = t by omega] at h4 h5
  unfold chkL
  simp only [decide_eq_false_iff_not]
  omega
/-- The loads prove it. -/
theorem prB_loads {s : GSite} {xs : List Int} (hx : loadB s xs = true) (h : vioO s xs = none) : prB s xs (loadsOf s xs) = true := by
  have hk : OkSite keyL s := by
    unfold loadB at hx
    rw [Bool.and_eq_true] at hx
    exact okSB_iff.1 hx.1
  refine prB_yes hx (loadsOf_len _ _) ?_
  refine okPr_congr (P := loadS s (fI xs) s.chgs.length) (fun c p hc hp => (F3_of hc hp).symm) ?_
  intro c hc p hp
  refine ⟨?_, chk_none hx h hc hp⟩
  unfold needP
  rw [load_sum hk (fI xs) c p hp]
  exact Int.le_refl _
/-- A proof whose sums are made less is not right. -/
theorem prB_least {s : GSite} {xs : List Int} {ps : List R3} {c p : Nat} (hc : c < s.cons.length) (hp : p < 3) {b : Int} (hb : 0 < b) (hl : ps.length = s.cons.length) (hx : ∀ d q, d < s.cons.length → q < 3 → F3 ps (d * 3 + q) = loadS s (fI xs) s.chgs.length (d * 3 + q) - (if d = c ∧ q = p then b else 0)) : prB s xs ps = false := by
  refine prB_no (fun ⟨h1, h2, h3⟩ => ?_)
  have hk : OkSite keyL s := by
    unfold loadB at h1
    rw [Bool.and_eq_true] at h1
    exact okSB_iff.1 h1.1
  have h4 := (h3 c hc p hp).1
  unfold needP at h4
  have h5 : fromB s (F3 ps) c s.cons.length p = fromB s (loadS s (fI xs) s.chgs.length) c s.cons.length p := by
    unfold fromB
    refine S_congr (fun i hi => ?_)
    by_cases e : upAt s.cons i = (c : Int)
    · rw [pick_pos e, pick_pos e, hx i p hi hp, if_neg (fun h => ?_)]
      · omega
      · have := hk.ups i hi
        have := h.1
        subst this
        omega
    · rw [pick_neg e, pick_neg e]
  rw [h5, ← load_sum hk (fI xs) c p hp, hx c p hc hp, if_pos ⟨rfl, rfl⟩] at h4
  omega
end Go.Proofs.YtbjmpfchapggfaaGreat
/-
Plain: the smallest currents that exceed a limit: those with the greatest tops first.
-/
namespace Go.Proofs.YtbjmpfchapggfaaGreat
open Go.RowKit
set_option linter.unusedVariables false
set_option linter.unusedSimpArgs false
theorem S_noneW {n : Nat} {g : Nat → Int} (h : ∀ i, i < n → g i = 0) : S n g = 0 := by rw [S_congr h, S_zero]
/-- A sum over numbers that differ. -/
theorem S_pos {n N : Nat} {v : Nat → Int} (hv : ∀ j, j < n → 0 ≤ v j ∧ v j < N) (hinj : ∀ i j, i < n → j < n → v i = v j → i = j) {b : Nat → Bool} (hb : ∀ i, i < N → (b i = true ↔ ∃ j, j < n ∧ v j = (i : Int))) (g : Nat → Int) :
    S n (fun j => g (v j).toNat) = S N (fun i => pick (b i = true) (g i)) := by
  have e : ∀ i, i < N → pick (b i = true) (g i) = S n (fun j => pick (v j = (i : Int)) (g (v j).toNat)) := by
    intro i hi
    by_cases h : b i = true
    · obtain ⟨k, hk, e⟩ := (hb i hi).1 h
      rw [pick_pos h, S_single (k := k) hk (fun m hm hne => pick_neg (fun x => hne (hinj m k hm hk (x.trans e.symm))) _), pick_pos e, e]
      simp
    · rw [pick_neg h, S_noneW (fun k hk => pick_neg (fun x => h ((hb i hi).2 ⟨k, hk, x⟩)) _)]
  rw [S_congr e, S_swap]
  refine S_congr fun k hk => ?_
  have hv' := hv k hk
  rw [S_single (n := N) (k := (v k).toNat) (by omega) (fun i hi hne => pick_neg (fun x => hne (by omega)) _), pick_pos (by omega)]
/-- What the first k of them carry. -/
def preS (f : Nat → Int) (v : Nat → Int) (k : Nat) : Int := S k (fun j => f (v j).toNat)
/-- What the one in place j gets. -/
def cutW (f : Nat → Int) (v : Nat → Int) (L : Int) (j : Nat) : Int := max 0 (min (f (v j).toNat) (L - preS f v j))
/-- What number i gets of the first k. -/
def outW (f : Nat → Int) (v : Nat → Int) (L : Int) (k i : Nat) : Int := S k (fun j => pick ((v j).toNat = i) (cutW f v L j))
theorem preS_succ (f v) (k : Nat) : preS f v (k + 1) = preS f v k + f (v k).toNat := rfl
theorem preS_nonneg {f : Nat → Int} (hf : ∀ i, 0 ≤ f i) (v : Nat → Int) (k : Nat) : 0 ≤ preS f v k := S_nonneg (fun j _ => hf _)
theorem preS_mono {f : Nat → Int} (hf : ∀ i, 0 ≤ f i) (v : Nat → Int) {k m : Nat} (h : k ≤ m) : preS f v k ≤ preS f v m := by
  induction h with
  | refl => exact Int.le_refl _
  | @step m _ ih => rw [preS_succ]; have := hf (v m).toNat; omega
theorem S_cut {f : Nat → Int} (hf : ∀ i, 0 ≤ f i) (v : Nat → Int) {L : Int} (hL : 0 ≤ L) : ∀ k : Nat, S k (cutW f v L) = min L (preS f v k)
  | 0 => by show (0 : Int) = min L 0; omega
  | k + 1 => by
    have ih := S_cut hf v hL k
    have h1 := hf (v k).toNat
    have h2 := preS_nonneg hf v k
    rw [S_succ, ih, preS_succ]
    unfold cutW
    omega
theorem outW_succ (f v) (L : Int) (k i : Nat) : outW f v L (k + 1) i = outW f v L k i + pick ((v k).toNat = i) (cutW f v L k) := rfl
/-- They differ, and lie below N. -/
structure DiffW (v : Nat → Int) (n N : Nat) : Prop where
  bd : ∀ j, j < n → 0 ≤ v j ∧ v j < N
  inj : ∀ i j, i < n → j < n → v i = v j → i = j
theorem outW_at {f : Nat → Int} {v : Nat → Int} {n N : Nat} (h : DiffW v n N) (L : Int) {k j : Nat} (hk : k ≤ n) (hj : j < k) : outW f v L k (v j).toNat = cutW f v L j := by
  unfold outW
  rw [S_single (k := j) hj (fun m hm hne => pick_neg (fun x => hne (h.inj m j (by omega) (by omega) (by have := h.bd m (by omega); have := h.bd j (by omega); omega))) _), pick_pos rfl]
theorem outW_off {f : Nat → Int} {v : Nat → Int} {n N : Nat} (h : DiffW v n N) (L : Int) {k i : Nat} (hk : k ≤ n) (hi : ∀ j, j < k → v j ≠ (i : Int)) : outW f v L k i = 0 := by
  unfold outW
  refine S_noneW (fun j hj => pick_neg (fun x => hi j hj ?_) _)
  have := h.bd j (by omega)
  omega
theorem outW_step {f : Nat → Int} {v : Nat → Int} {n N : Nat} (h : DiffW v n N) (L : Int) {k : Nat} (hk : k < n) (i : Nat) : outW f v L (k + 1) i = if i = (v k).toNat then cutW f v L k else outW f v L k i := by
  rw [outW_succ]
  by_cases e : i = (v k).toNat
  · subst e
    rw [if_pos rfl, pick_pos rfl, outW_off h L (by omega) (fun j hj x => ?_), Int.zero_add]
    have := h.bd k hk
    have := h.inj j k (by omega) hk (by omega)
    omega
  · rw [if_neg e, pick_neg (fun x => e x.symm), Int.add_zero]
theorem outW_bd {f : Nat → Int} (hf : ∀ i, 0 ≤ f i) {v : Nat → Int} {n N : Nat} (h : DiffW v n N) (L : Int) : ∀ k, k ≤ n → ∀ i, 0 ≤ outW f v L k i ∧ outW f v L k i ≤ f i
  | 0, _, i => ⟨Int.le_refl _, hf i⟩
  | k + 1, hk, i => by
    have ih := outW_bd hf h L k (by omega) i
    rw [outW_step h L (by omega)]
    by_cases e : i = (v k).toNat
    · subst e
      rw [if_pos rfl]
      have := hf (v k).toNat
      unfold cutW
      omega
    · rw [if_neg e]; exact ih
/-- Once nothing is left, nothing changes. -/
theorem outW_done {f : Nat → Int} (hf : ∀ i, 0 ≤ f i) {v : Nat → Int} {L : Int} {k : Nat} (h : L ≤ preS f v k) (i : Nat) : ∀ m, k ≤ m → outW f v L m i = outW f v L k i
  | 0, hm => by rw [show k = 0 by omega]
  | m + 1, hm => by
    rcases Nat.lt_or_ge m k with h1 | h1
    · rw [show k = m + 1 by omega]
    · rw [outW_succ, outW_done hf h i m h1]
      have h2 := preS_mono hf v h1
      have h3 := hf (v m).toNat
      have : cutW f v L m = 0 := by unfold cutW; omega
      rw [this]
      unfold pick
      split <;> omega
/-- The load of the place. -/
theorem outW_load {f : Nat → Int} (hf : ∀ i, 0 ≤ f i) {v : Nat → Int} {s : GSite} {n t : Nat} (h : DiffW v n s.chgs.length) (hb : ∀ i, i < s.chgs.length → (onB s i (t / 3) (t % 3) = true ↔ ∃ j, j < n ∧ v j = (i : Int))) (g : Nat → Int) : loadS s g s.chgs.length t = S n (fun j => g (v j).toNat) := by
  rw [S_pos h.bd h.inj hb g]
  rfl
theorem outW_exact {f : Nat → Int} (hf : ∀ i, 0 ≤ f i) {v : Nat → Int} {s : GSite} {n t : Nat} (h : DiffW v n s.chgs.length) (hb : ∀ i, i < s.chgs.length → (onB s i (t / 3) (t % 3) = true ↔ ∃ j, j < n ∧ v j = (i : Int))) {L : Int} (hL : 0 ≤ L) (hs : L ≤ loadS s f s.chgs.length t) : loadS s (outW f v L n) s.chgs.length t = L := by
  rw [outW_load hf h hb, S_congr (h := cutW f v L) (fun j hj => outW_at h L (Nat.le_refl _) hj), S_cut hf v hL]
  rw [outW_load hf h hb f] at hs
  show min L (S n (fun j => f (v j).toNat)) = L
  omega
/-- How many of the first n do not vanish. -/
def cntW (g : Nat → Int) (v : Nat → Int) (n : Nat) : Nat := ((List.range n).filter (fun j => decide (g (v j).toNat ≠ 0))).length
theorem cntW_succ (g v) (n : Nat) : cntW g v (n + 1) = cntW g v n + if g (v n).toNat = 0 then 0 else 1 := by
  unfold cntW
  rw [List.range_succ, List.filter_append, List.length_append]
  by_cases h : g (v n).toNat = 0 <;> simp [h]
theorem cntW_le (g v) : ∀ n : Nat, cntW g v n ≤ n
  | 0 => Nat.le_refl _
  | n + 1 => by have := cntW_le g v n; rw [cntW_succ]; split <;> omega
/-- No currents below the tops carry more than as many of the greatest tops. -/
theorem few_most {f g : Nat → Int} (hg : ∀ i, 0 ≤ g i ∧ g i ≤ f i) {v : Nat → Int} : ∀ n : Nat, (∀ i j, i ≤ j → j < n → f (v j).toNat ≤ f (v i).toNat) → S n (fun j => g (v j).toNat) ≤ preS f v (cntW g v n)
  | 0, _ => Int.le_refl _
  | n + 1, hd => by
    have ih := few_most hg n (fun i j hij hj => hd i j hij (by omega))
    rw [S_succ, cntW_succ]
    by_cases h : g (v n).toNat = 0
    · rw [if_pos h, h, Nat.add_zero, Int.add_zero]; exact ih
    · rw [if_neg h, preS_succ]
      have h1 := (hg (v n).toNat).2
      have h2 := hd (cntW g v n) n (cntW_le g v n) (by omega)
      omega
/-- How many numbers are not 0. -/
def drawN (g : Nat → Int) (N : Nat) : Nat := ((List.range N).filter (fun i => decide (g i ≠ 0))).length
theorem drawN_succ (g : Nat → Int) (N : Nat) : drawN g (N + 1) = drawN g N + if g N = 0 then 0 else 1 := by
  unfold drawN
  rw [List.range_succ, List.filter_append, List.length_append]
  by_cases h : g N = 0 <;> simp [h]
def ind0 (g : Nat → Int) (i : Nat) : Int := if g i = 0 then 0 else 1
theorem drawN_S (g : Nat → Int) : ∀ N : Nat, (drawN g N : Int) = S N (ind0 g)
  | 0 => rfl
  | N + 1 => by rw [drawN_succ, S_succ, ← drawN_S g N]; unfold ind0; split <;> simp
theorem cntW_S (g v) : ∀ n : Nat, (cntW g v n : Int) = S n (fun j => ind0 g (v j).toNat)
  | 0 => rfl
  | n + 1 => by rw [cntW_succ, S_succ, ← cntW_S g v n]; unfold ind0; split <;> simp
theorem cnt_draw {v : Nat → Int} {n N : Nat} (h : DiffW v n N) (g : Nat → Int) : cntW g v n ≤ drawN g N := by
  have e1 := cntW_S g v n
  have e2 := drawN_S g N
  have hb : ∀ i, i < N → (@decide (∃ j, j < n ∧ v j = (i : Int)) (Classical.propDecidable _) = true ↔ ∃ j, j < n ∧ v j = (i : Int)) := fun i _ => @decide_eq_true_iff _ (Classical.propDecidable _)
  rw [S_pos h.bd h.inj hb (ind0 g)] at e1
  have h3 : S N (fun i => pick (@decide (∃ j, j < n ∧ v j = (i : Int)) (Classical.propDecidable _) = true) (ind0 g i)) ≤ S N (ind0 g) := S_le (fun i _ => by
    unfold pick ind0
    split <;> split <;> omega)
  omega
/-- Not more of them draw than are needed. -/
theorem draw_out {f : Nat → Int} (hf : ∀ i, 0 ≤ f i) {v : Nat → Int} {n N : Nat} (h : DiffW v n N) {L : Int} {k : Nat} (hk : k ≤ n) (hd : L ≤ preS f v k) : drawN (outW f v L n) N ≤ k := by
  have hb : ∀ i, i < N → (@decide (∃ j, j < k ∧ v j = (i : Int)) (Classical.propDecidable _) = true ↔ ∃ j, j < k ∧ v j = (i : Int)) := fun i _ => @decide_eq_true_iff _ (Classical.propDecidable _)
  have hk2 : DiffW v k N := ⟨fun j hj => h.bd j (by omega), fun i j hi hj => h.inj i j (by omega) (by omega)⟩
  have e1 := drawN_S (outW f v L n) N
  have e2 : S N (ind0 (outW f v L n)) = S N (fun i => pick (@decide (∃ j, j < k ∧ v j = (i : Int)) (Classical.propDecidable _) = true) (ind0 (outW f v L n) i)) := S_congr (fun i hi => by
    by_cases e : ∃ j, j < k ∧ v j = (i : Int)
    · rw [pick_pos ((hb i hi).2 e)]
    · rw [pick_neg (fun x => e ((hb i hi).1 x))]
      unfold ind0
      rw [outW_done hf hd i n hk, outW_off hk2 L (Nat.le_refl _) (fun j hj x => e ⟨j, hj, x⟩)]
      rfl)
  rw [e2, ← S_pos hk2.bd hk2.inj hb (ind0 (outW f v L n))] at e1
  have h3 : S k (fun j => ind0 (outW f v L n) (v j).toNat) ≤ k * 1 := S_bound (fun j _ => by unfold ind0; split <;> omega)
  omega
/-- The least number of the greatest tops that are enough. -/
theorem enough_least {f : Nat → Int} {v : Nat → Int} {L : Int} : ∀ n : Nat, L ≤ preS f v n → 0 < L → ∃ k, k < n ∧ L ≤ preS f v (k + 1) ∧ preS f v k < L
  | 0, h, h0 => by
    have : preS f v 0 = 0 := rfl
    omega
  | n + 1, h, h0 => by
    by_cases e : L ≤ preS f v n
    · obtain ⟨k, h1, h2, h3⟩ := enough_least n e h0
      exact ⟨k, by omega, h2, h3⟩
    · exact ⟨n, by omega, h, by omega⟩
/-- Fewer chargers below the tops do not exceed it. -/
theorem wit_fewest {f g : Nat → Int} (hf : ∀ i, 0 ≤ f i) (hg : ∀ i, 0 ≤ g i ∧ g i ≤ f i) {v : Nat → Int} {s : GSite} {n t : Nat} (h : DiffW v n s.chgs.length) (hb : ∀ i, i < s.chgs.length → (onB s i (t / 3) (t % 3) = true ↔ ∃ j, j < n ∧ v j = (i : Int))) (hd : ∀ i j, i ≤ j → j < n → f (v j).toNat ≤ f (v i).toNat) {L : Int} (hL : 0 < L) (hs : L ≤ loadS s f s.chgs.length t) (hc : drawN g s.chgs.length < drawN (outW f v L n) s.chgs.length) : loadS s g s.chgs.length t < L := by
  rw [outW_load hf h hb f] at hs
  rw [outW_load hf h hb g]
  obtain ⟨k, h1, h2, h3⟩ := enough_least n hs hL
  have h4 := draw_out hf h (k := k + 1) (by omega) h2
  have h5 := cnt_draw h g
  have h6 := few_most hg n hd
  have h7 := preS_mono hf v (show cntW g v n ≤ k by omega)
  omega
end Go.Proofs.YtbjmpfchapggfaaGreat
/-
The iterator over the conductors from the last one to the first one.
-/
namespace Go.Proofs.YtbjmpfchapggfaaGreat
open Go.RowKit Go.Shelf
set_option linter.unusedVariables false
set_option linter.unusedSimpArgs false
def conV (g : GCon) : Value := .agg #[.string g.name, .int .i64 g.up, .int .i64 g.limit, .int .i64 g.neutral, .int .i64 g.rated, .int .i64 g.heat, .int .i64 g.amb, .int .i64 g.most, .int .i64 g.gain, .int .i64 g.loss, .int .i64 g.den]
abbrev BkAt (cs : List GCon) : Type := { k : Nat // k < cs.length }
def bkV (cs : List GCon) (x : BkAt cs) : Value := conV (cs[x.1]'x.2)
/-- The conductors, from the last one on. -/
def OrdB (cs : List GCon) (ys : List (BkAt cs)) : Prop := ∀ (i : Nat) (x : BkAt cs), ys[i]? = some x → x.1 + i + 1 = cs.length
theorem OrdB.snoc {cs : List GCon} {ys : List (BkAt cs)} (h : OrdB cs ys) {x : BkAt cs} (hx : x.1 + ys.length + 1 = cs.length) : OrdB cs (ys ++ [x]) := by
  intro i y hy
  rcases Nat.lt_or_ge i ys.length with hi | hi
  · rw [List.getElem?_append_left hi] at hy
    exact h i y hy
  · rw [List.getElem?_append_right hi] at hy
    have h0 : i - ys.length = 0 := by
      have := (List.getElem?_eq_some_iff.1 hy).1
      simp at this
      omega
    rw [h0] at hy
    simp at hy
    subst hy
    omega
theorem OrdB.of_snoc {cs : List GCon} {ys : List (BkAt cs)} {x : BkAt cs} (h : OrdB cs (ys ++ [x])) : OrdB cs ys ∧ x.1 + ys.length + 1 = cs.length := by
  refine ⟨fun i y hy => h i y ?_, h ys.length x ?_⟩
  · rw [List.getElem?_append_left (List.getElem?_eq_some_iff.1 hy).1]
    exact hy
  · rw [List.getElem?_append_right (Nat.le_refl _)]
    simp
set_option maxRecDepth 100000 in
theorem prBack_any (a1 a2 a3 a4 a5 : Option Addr) (n1 c1 n2 c2 n3 c3 n4 c4 n5 c5 : Nat) (w : World) : Calls Tryz.prog 29 #[.agg #[.slice a1 n1 c1, .slice a2 n2 c2, .slice a3 n3 c3, .slice a4 n4 c4, .slice a5 n5 c5]] w fun e w' =>
    e = .returned (.func (.func 56) #[] #[.pointer (some ⟨w.heap.size, 0, none⟩)]) ∧ w' = w.alloc (.cells #[.slice a1 n1 c1, .slice a2 n2 c2, .slice a3 n3 c3, .slice a4 n4 c4, .slice a5 n5 c5] 28) := by
  go_enter Tryz.func29, Tryz.ntmps29
  go_wp2
  go_ret
  exact ⟨rfl, rfl⟩
set_option maxRecDepth 100000 in
set_option maxHeartbeats 4000000 in
theorem prBack1_in (m : Nat) (hm : 1 ≤ m) (l bs B : Nat) (cs : List GCon) (a1 : Option Addr) (n1 c1 : Nat) (hn1 : cs.length = n1) (hm1 : n1 ≤ 1000000) (hA : ∀ a, a1 = some a → a.block < B) (J Jx : List (BkAt cs) → World → Prop) (W : World)
    (hJ : AbidesFrom W.heap.size J)
    (hY : ∀ (pre : List (BkAt cs)) (x : BkAt cs) W1, J pre W1 → pre.length < n1 → YieldAt Fence.wide (m - 1) Tryz.prog l #[.int .i64 (x.1 : Nat), bkV cs x] W1 fun e W' =>
      (e = .returned (.bool true) ∧ J (pre ++ [x]) W' ∧ KpW B bs W1 W') ∨ (e = .returned (.bool false) ∧ Jx (pre ++ [x]) W'))
    (hbs : W.cell? ⟨bs, 0, none⟩ = some (.slice a1 n1 c1)) (hR : Rd 11 encCon W a1 cs) (h0 : J [] W) :
    CallsIn Fence.wide m Tryz.prog 56 #[.func (.yield l) #[] #[], .pointer (some ⟨bs, 0, none⟩)] W fun e W' => (∃ v, e = .returned v) ∧
      ((∃ ys : List (BkAt cs), (OrdB cs ys ∧ ys.length = n1) ∧ J ys W') ∨ (∃ pre : List (BkAt cs), OrdB cs pre ∧ Jx pre W')) := by
  have HY := Lib.hid hY
  have HJ := Lib.hid hJ
  have HR := Lib.hid hR
  have HA := Lib.hid hA
  have HN := Lib.hid hn1
  clear hY hJ hR hA hn1
  refine callsIn_of_wp Tryz.func56 rfl trivial ?_ rfl
  simp only [Tryz.ntmps56, List.size_toArray, List.length_cons, List.length_nil, Nat.reduceAdd, Nat.reduceSub, Array.replicate_succ, Array.replicate_zero, List.push_toArray, List.append_toArray, List.nil_append, List.cons_append]
  have hw0 : IntKind.i64.wrap ((n1 : Int) - 1) = (n1 : Int) - 1 := IntWalk.i64_in _ (by omega)
  gi_wp2
  gi_loopw [3] (fun i wr => ∃ (c : Int) (pre : List (BkAt cs)), i = .int .i64 c ∧ -1 ≤ c ∧ c < (n1 : Int) ∧ Hid ((pre.length : Int) + c + 1 = n1 ∧ OrdB cs pre) ∧ Hid (J pre wr) ∧ wr.cell? ⟨bs, 0, none⟩ = some (.slice a1 n1 c1) ∧ Hid (Rd 11 encCon wr a1 cs)) (fun i _ => (intOf i + 1).toNat)
  case atStart => exact ⟨(n1 : Int) - 1, [], rfl, by omega, by omega, Lib.hid ⟨by simp, fun i x hx => (by simp at hx)⟩, Lib.hid h0, hbs, HR⟩
  case round =>
    clear hbs h0 HR hw0
    obtain ⟨c, pre, rfl, hlo, hhi, Hpre, HJp, q0, HR⟩ := hrel
    by_cases hlt : 0 ≤ c
    · obtain ⟨k, rfl⟩ := Int.eq_ofNat_of_zero_le hlt
      have hk : k < cs.length := by rw [HN.out]; omega
      have hkz : (k : Int) < (n1 : Int) := by omega
      obtain ⟨b, off, g, hA1, hbl, hgx, d0, d1, d2, d3, d4, d5, d6, d7, d8, d9, d10⟩ := rdCon_at HR.out hk
      have hpl : pre.length < n1 := by have := Hpre.out.1; omega
      obtain ⟨fn, tmps, assign, body, hy, hRd⟩ := HY.out pre ⟨k, hk⟩ wr HJp.out hpl
      have hbv : bkV cs ⟨k, hk⟩ = conV g := by
        unfold bkV
        rw [List.getElem?_eq_getElem hk] at hgx
        injection hgx with hgx
        dsimp only
        rw [hgx]
      rw [hbv] at hy
      unfold conV at hy
      dsimp only at hy
      have hws : IntKind.i64.wrap ((k : Int) - 1) = (k : Int) - 1 := IntWalk.i64_in _ (by omega)
      have HPL : Hid (((pre ++ [(⟨k, hk⟩ : BkAt cs)]).length : Int) + ((k : Int) - 1) + 1 = n1 ∧ OrdB cs (pre ++ [(⟨k, hk⟩ : BkAt cs)])) := Lib.hid ⟨by rw [List.length_append]; have := Hpre.out.1; simp; omega, Hpre.out.2.snoc (by have := Hpre.out.1; have := HN.out; dsimp only; omega)⟩
      clear hgx hbv
      subst hA1
      gi_wp2
      refine hRd.mono ?_
      rintro e' W3 (⟨rfl, hJ3, hk3⟩ | ⟨rfl, hJx3⟩)
      · have p0 := (World.cell?_of_block (a := ⟨bs, 0, none⟩) hk3.s1).trans q0
        have HR3 : Hid (Rd 11 encCon W3 (some ⟨b, off, none⟩) cs) := Lib.hid (HR.out.belowB hk3.bel HA.out)
        have HJ3 := Lib.hid hJ3
        clear hJ3 d0 d1 d2 d3 d4 d5 d6 d7 d8 d9 d10 q0 hbl
        gi_wp2
        go_roundw
        case rel => exact ⟨(k : Int) - 1, _, rfl, by omega, by omega, HPL, HJ3, p0, HR3⟩
        case measure => (simp [intOf]; try omega)
      · gi_wp2
        refine bodyPost_ret (results_none rfl _ _ _) rfl ?_
        exact ⟨⟨_, rfl⟩, .inr ⟨_, HPL.out.2, hJx3⟩⟩
    · have hltz : ¬ 0 ≤ c := hlt
      have HE : Hid (OrdB cs pre ∧ pre.length = n1) := Lib.hid ⟨Hpre.out.2, by have := Hpre.out.1; omega⟩
      gi_wp2
      go_end0
      exact ⟨⟨_, rfl⟩, .inl ⟨pre, HE.out, HJp.out⟩⟩
/-- ONE RULE for every loop over the conductors from the last one on. -/
theorem range_back {cs : List GCon} {a1 : Option Addr} {n1 c1 : Nat} (hn1 : cs.length = n1) (hm1 : n1 ≤ 1000000) {g : Operand} {p q : Tmp} {assign body : Code} {Q : Exit → Act → World → Prop} {a : Act} {w : World} (bs B : Nat)
    (hg : a.eval g = .func (.func 56) #[] #[.pointer (some ⟨bs, 0, none⟩)]) (hbs : w.cell? ⟨bs, 0, none⟩ = some (.slice a1 n1 c1)) (hR : Rd 11 encCon w a1 cs) (hA : ∀ a, a1 = some a → a.block < B) (hB : B ≤ w.heap.size)
    (I : List (BkAt cs) → World → Prop) (Ix : Code → List (BkAt cs) → World → Prop) (hI : ∀ pre W W', I pre W → Nc w.heap.size W W' → I pre W') (hIx : ∀ c pre W W', Ix c pre W → Nc w.heap.size W W' → Ix c pre W') (h0 : I [] w) (Ax : BkAt cs → Act → World → Prop) (hAx : ∀ x a' W W', Ax x a' W → Nc w.heap.size W W' → Ax x a' W')
    (hassign : ∀ (l : Nat) (pre : List (BkAt cs)) (x : BkAt cs) (W : World) (K : Act → World → Prop), I pre W → (∀ a' W', KeepsFrom w.heap.size W W' → KpW B bs W W' → I pre W' → Ax x a' W' → K a' W') → assign.wpIn (Fence.wide.inRound l) 3 Tryz.prog (Exit.then K (fun _ _ _ => False)) { tmps := (a.tmps.setIfInBounds p (.int .i64 (x.1 : Nat))).setIfInBounds q (bkV cs x), defers := [] } W)
    (hbody : ∀ (l : Nat) (pre : List (BkAt cs)) (x : BkAt cs) (a' : Act) (W : World), I pre W → Ax x a' W → pre.length < n1 → body.wpIn (Fence.wide.inRound l) 3 Tryz.prog (ownPostG w.heap.size (KpW B bs) I Ix (pre ++ [x]) W) a' W)
    (hdone : ∀ (D : Nat) (ys : List (BkAt cs)) (W : World), w.heap.size ≤ D → OrdB cs ys ∧ ys.length = n1 → I ys W → W.heap[D]? = some (.deferred (some [])) → Q .normal { a with defers := { target := .collected D, args := #[] } :: a.defers } W)
    (hstop : ∀ (D : Nat) (c : Code) (pre : List (BkAt cs)) (W : World), w.heap.size ≤ D → OrdB cs pre → Ix c pre W → W.heap[D]? = some (.deferred (some [])) → c.wpIn Fence.wide 5 Tryz.prog Q { a with defers := { target := .collected D, args := #[] } :: a.defers } W) :
    (Code.rangeFunc g #[p, q] assign body).wp Tryz.prog Q a w := by
  have ls := World.block_lt_of_cell? w _ hbs
  dsimp only at ls
  refine (wpIn_wide (n := 5)).1 ?_
  refine wpIn_rangeFunc_ownH (F := Fence.wide) (α := BkAt cs) rfl (by omega) (gf := 56) (lb := #[.pointer (some ⟨bs, 0, none⟩)]) hg trivial (enters_of Tryz.func56 (by kernel_rfl) rfl)
    (encs := fun x => #[.int .i64 (x.1 : Nat), bkV cs x]) (Kp := KpW B bs) (S := fun (ys : List (BkAt cs)) => OrdB cs ys ∧ ys.length = n1) (Sp := fun (ys : List (BkAt cs)) => OrdB cs ys) (N := n1) (w0 := w)
    (fun l J Jx W' hW' hJ _ hY h0 => prBack1_in 4 (by omega) l bs B cs a1 n1 c1 hn1 hm1 hA J Jx W' hJ hY ((hW'.cell (p := ⟨bs, 0, none⟩) ls).trans hbs) (hR.keep hW') h0)
    ?hKt ?hKb (Below.refl _ _) (fun _ => rfl) I Ix ?hI ?hIx h0 Ax ?hAx ?assign ?body ?done hstop
  case hKt => exact fun h1 h2 => ⟨h1.bel.trans h2.bel, h2.s1.trans h1.s1⟩
  case hKb =>
    intro W' l o o' hl ho _ _
    exact ⟨⟨rfl, rfl, rfl, by simp, fun k hk => World.putObj_heap_other (by omega)⟩, World.putObj_heap_other (by omega)⟩
  case hI => exact fun pre W1 W2 row h hg hr => hI pre W1 W2 h ⟨row, hg, hr⟩
  case hIx => exact fun c pre W1 W2 row h hg hr => hIx c pre W1 W2 h ⟨row, hg, hr⟩
  case hAx => exact fun x a' _ W1 W2 row h hg hr => hAx x a' W1 W2 h ⟨row, hg, hr⟩
  case assign =>
    intro l pre x W1 K hi hK
    have ht : (#[p, q].zip #[Value.int .i64 (x.1 : Nat), bkV cs x]).foldl (fun t (p, v) => t.setIfInBounds p v) a.tmps = (a.tmps.setIfInBounds p (.int .i64 (x.1 : Nat))).setIfInBounds q (bkV cs x) := by simp
    rw [ht]
    exact hassign l pre x W1 K hi hK
  case body =>
    intro l pre x a' W1 hl hlr hi hx hlen
    exact hbody l pre x a' W1 hi hx hlen
  case done => exact fun D ys W1 hD hS hi hdf => hdone D ys W1 hD hS hi hdf
end Go.Proofs.YtbjmpfchapggfaaGreat
/-
Plain: the sums from the last conductor on.
-/
namespace Go.Proofs.YtbjmpfchapggfaaGreat
open Go.RowKit
set_option linter.unusedVariables false
set_option linter.unusedSimpArgs false
/-- What the conductors of a list that hang at k hand on. -/
def upS (s : GSite) (P : Nat → Int) (k p : Nat) : List Nat → Int
  | [] => 0
  | x :: l => pick (upAt s.cons x = (k : Int)) (P (x * 3 + p)) + upS s P k p l
theorem upS_snoc (s : GSite) (P : Nat → Int) (k p : Nat) (l : List Nat) (x : Nat) : upS s P k p (l ++ [x]) = upS s P k p l + pick (upAt s.cons x = (k : Int)) (P (x * 3 + p)) := by
  induction l with
  | nil => show pick _ _ + 0 = 0 + _; omega
  | cons y l ih => show pick _ _ + upS s P k p (l ++ [x]) = pick _ _ + upS s P k p l + _; rw [ih]; omega
def foC (s : GSite) (f P : Nat → Int) (pre : List Nat) (j : Nat) : Int := ownA s f (j / 3) s.chgs.length (j % 3) + upS s P (j / 3) (j % 3) pre
def foP (s : GSite) (f P : Nat → Int) (pre : List Nat) (x p j : Nat) : Int := if j % 3 < p then foC s f P (pre ++ [x]) j else foC s f P pre j
theorem foC_nil (s f P) (j : Nat) : foC s f P [] j = ownA s f (j / 3) s.chgs.length (j % 3) := by unfold foC; exact Int.add_zero _
theorem foP_zero (s f P pre) (x j : Nat) : foP s f P pre x 0 j = foC s f P pre j := by unfold foP; rw [if_neg (by omega)]
theorem foP_three (s f P pre) (x j : Nat) : foP s f P pre x 3 j = foC s f P (pre ++ [x]) j := by unfold foP; rw [if_pos (by omega)]
theorem foP_at (s f P pre) (x k p : Nat) (hp : p < 3) : foP s f P pre x p (k * 3 + p) = foC s f P pre (k * 3 + p) := by unfold foP; rw [if_neg (by omega)]
theorem foC_snoc (s f P pre) (x j : Nat) : foC s f P (pre ++ [x]) j = foC s f P pre j + pick (upAt s.cons x = ((j / 3 : Nat) : Int)) (P (x * 3 + j % 3)) := by
  unfold foC
  rw [upS_snoc]
  omega
theorem foP_up {s : GSite} {f P : Nat → Int} {pre : List Nat} {x p u : Nat} (hu : upAt s.cons x = (u : Int)) (hp : p < 3) (j : Nat) : foP s f P pre x (p + 1) j = if j = u * 3 + p then foP s f P pre x p (u * 3 + p) + P (x * 3 + p) else foP s f P pre x p j := by
  by_cases h : j % 3 = p
  · have hl : foP s f P pre x (p + 1) j = foC s f P (pre ++ [x]) j := by unfold foP; rw [if_pos (by omega)]
    have hr : foP s f P pre x p j = foC s f P pre j := by unfold foP; rw [if_neg (by omega)]
    rw [hl, foC_snoc, hu]
    by_cases e : j = u * 3 + p
    · rw [if_pos e, ← e, hr, pick_pos (by omega), h]
    · rw [if_neg e, hr, pick_neg (by omega), Int.add_zero]
  · rw [if_neg (by omega)]
    unfold foP
    by_cases h2 : j % 3 < p
    · rw [if_pos (by omega), if_pos h2]
    · rw [if_neg (by omega), if_neg h2]
theorem foP_root {s : GSite} {f P : Nat → Int} {pre : List Nat} {x p : Nat} (hu : upAt s.cons x < 0) (j : Nat) : foP s f P pre x (p + 1) j = foP s f P pre x p j := by
  have h : foC s f P (pre ++ [x]) j = foC s f P pre j := by rw [foC_snoc, pick_neg (by omega), Int.add_zero]
  unfold foP
  rw [h]
  split <;> split <;> rfl
def okQ (s : GSite) (f P : Nat → Int) (pre : List Nat) (x p : Nat) : Prop := foC s f P pre (x * 3 + p) ≤ P (x * 3 + p) ∧ P (x * 3 + p) ≤ limAt s x
def allQ (s : GSite) (f P : Nat → Int) (pre : List Nat) : Prop := ∀ i x, pre[i]? = some x → ∀ p, p < 3 → okQ s f P (pre.take i) x p
theorem allQ_nil (s f P) : allQ s f P [] := fun i x h => by simp at h
theorem allQ_snoc {s : GSite} {f P : Nat → Int} {pre : List Nat} {x : Nat} (h : allQ s f P pre) (hx : ∀ p, p < 3 → okQ s f P pre x p) : allQ s f P (pre ++ [x]) := by
  intro i y hy p hp
  rcases Nat.lt_or_ge i pre.length with hi | hi
  · rw [List.getElem?_append_left hi] at hy
    rw [List.take_append_of_le_length (by omega)]
    exact h i y hy p hp
  · rw [List.getElem?_append_right hi] at hy
    have h0 : i - pre.length = 0 := by
      have := (List.getElem?_eq_some_iff.1 hy).1
      simp at this
      omega
    rw [h0] at hy
    simp at hy
    subst hy
    have hi' : i = pre.length := by omega
    subst hi'
    rw [List.take_left' rfl]
    exact hx p hp
def bdQ (s : GSite) (f P : Nat → Int) (pre : List Nat) : Prop := ∀ j, 0 ≤ foC s f P pre j ∧ foC s f P pre j ≤ 1280 + 1000 * pre.length
theorem limAt_bd {s : GSite} (hk : OkSite keyL s) (x : Nat) : 0 ≤ limAt s x ∧ limAt s x ≤ 1000 := by
  unfold limAt
  cases e : s.cons[x]? with
  | none => exact ⟨Int.le_refl _, by decide⟩
  | some g => exact limV_bd (hk.okC e)
theorem okQ_bd {s : GSite} (hk : OkSite keyL s) {f P : Nat → Int} {pre : List Nat} (hb : bdQ s f P pre) {x p : Nat} (h : okQ s f P pre x p) : 0 ≤ P (x * 3 + p) ∧ P (x * 3 + p) ≤ 1000 := by
  have h1 := hb (x * 3 + p)
  have h2 := limAt_bd hk x
  unfold okQ at h
  omega
theorem bdQ_snoc {s : GSite} (hk : OkSite keyL s) {f P : Nat → Int} {pre : List Nat} {x : Nat} (hb : bdQ s f P pre) (hx : ∀ p, p < 3 → okQ s f P pre x p) : bdQ s f P (pre ++ [x]) := by
  intro j
  have h1 := hb j
  have h2 := okQ_bd hk hb (hx (j % 3) (by omega))
  rw [foC_snoc, List.length_append]
  unfold pick
  simp only [List.length_singleton]
  split <;> omega
theorem upS_take {s : GSite} {P : Nat → Int} (k p : Nat) {ys : List (BkAt s.cons)} (h : OrdB s.cons ys) : ∀ i, i ≤ ys.length → upS s P k p ((ys.map (·.1)).take i) + fromB s P k (s.cons.length - i) p = fromB s P k s.cons.length p
  | 0, _ => by rw [List.take_zero]; exact Int.zero_add _
  | i + 1, hi => by
    have ih := upS_take (P := P) k p h i (by omega)
    obtain ⟨y, hy⟩ : ∃ y, ys[i]? = some y := ⟨_, List.getElem?_eq_getElem (by omega)⟩
    have hyi := h i y hy
    have h1 : (ys.map (·.1)).take (i + 1) = (ys.map (·.1)).take i ++ [y.1] := by
      rw [List.take_add_one, List.getElem?_map, hy]; rfl
    rw [h1, upS_snoc]
    have h2 : s.cons.length - i = (s.cons.length - (i + 1)) + 1 := by omega
    have h3 : y.1 = s.cons.length - (i + 1) := by omega
    rw [h2, fromB_succ, ← h3] at ih
    rw [← h3]
    omega
theorem fromB_none {s : GSite} (hk : OkSite keyL s) (P : Nat → Int) (c p m : Nat) (hm : m ≤ c + 1) (hc : c < s.cons.length) : fromB s P c m p = 0 := by
  unfold fromB
  rw [← S_zero m]
  refine S_congr (fun i hi => ?_)
  have h := hk.ups i (by omega)
  exact pick_neg (show ¬ upAt s.cons i = (c : Int) from fun e => by omega) _
theorem need_foC {s : GSite} (hk : OkSite keyL s) {f P : Nat → Int} {ys : List (BkAt s.cons)} (h : OrdB s.cons ys) {i : Nat} {y : BkAt s.cons} (hy : ys[i]? = some y) {p : Nat} (hp : p < 3) : foC s f P ((ys.map (·.1)).take i) (y.1 * 3 + p) = needP s f P y.1 p := by
  have hi := (List.getElem?_eq_some_iff.1 hy).1
  have h1 := upS_take (P := P) y.1 p h i (by omega)
  have h2 := h i y hy
  have h3 := y.2
  rw [fromB_none hk P y.1 p (s.cons.length - i) (by omega) h3] at h1
  unfold foC needP
  rw [show (y.1 * 3 + p) / 3 = y.1 by omega, show (y.1 * 3 + p) % 3 = p by omega, ← h1]
  omega
theorem okPr_all {s : GSite} (hk : OkSite keyL s) {f P : Nat → Int} {ys : List (BkAt s.cons)} (h : OrdB s.cons ys) (hl : ys.length = s.cons.length) (ha : allQ s f P (ys.map (·.1))) : okPr s f P := by
  intro c hc p hp
  obtain ⟨i, hi⟩ : ∃ i, i = s.cons.length - (c + 1) := ⟨_, rfl⟩
  obtain ⟨y, hy⟩ : ∃ y, ys[i]? = some y := ⟨_, List.getElem?_eq_getElem (by omega)⟩
  have h1 := h i y hy
  have h2 : y.1 = c := by omega
  have h3 := ha i y.1 (by rw [List.getElem?_map, hy]; rfl) p hp
  unfold okQ at h3
  rw [need_foC hk h hy hp, h2] at h3
  exact h3
theorem okPr_not {s : GSite} (hk : OkSite keyL s) {f P : Nat → Int} {ys : List (BkAt s.cons)} {y : BkAt s.cons} (h : OrdB s.cons (ys ++ [y])) {p : Nat} (hp : p < 3) (ha : ¬ okQ s f P (ys.map (·.1)) y.1 p) : ¬ okPr s f P := by
  intro ho
  have h1 := ho y.1 y.2 p hp
  have hy : (ys ++ [y])[ys.length]? = some y := by rw [List.getElem?_append_right (Nat.le_refl _)]; simp
  rw [← need_foC hk h hy hp] at h1
  have h2 : ((ys ++ [y]).map (·.1)).take ys.length = ys.map (·.1) := by rw [List.map_append]; exact List.take_left' (by simp)
  rw [h2] at h1
  exact ha h1
end Go.Proofs.YtbjmpfchapggfaaGreat
/-
Plain: a proof stays right if conductors may carry more.
-/
namespace Go.Proofs.YtbjmpfchapggfaaGreat
open Go.RowKit
set_option linter.unusedVariables false
set_option linter.unusedSimpArgs false
def widC (m : Int) (c : GCon) : GCon := ⟨c.name, c.up, min 1000 (c.limit + m), min 1000 (c.neutral + m), if 0 < c.rated then min 1000 (c.rated + m) else c.rated, c.heat, c.amb, c.most, c.gain, c.loss, c.den⟩
def widS (m : Int) (s : GSite) : GSite := ⟨s.cons.map (widC m), s.owns, s.ctrs, s.chgs, s.bays⟩
theorem limV_wid {c : GCon} (h : OkC c) {m : Int} (hm : 0 ≤ m) : limV c ≤ limV (widC m c) := by
  have hl := h.lim
  have hn := h.neu
  have hp : permV (widC m c) = permV c := rfl
  unfold limV
  rw [hp]
  show _ ≤ (if (if 0 < c.rated then min 1000 (c.rated + m) else c.rated) = 0 then min (min (min 1000 (c.limit + m)) (min 1000 (c.neutral + m))) (permV c) else min (min (min (min 1000 (c.limit + m)) (min 1000 (c.neutral + m))) (permV c)) (if 0 < c.rated then min 1000 (c.rated + m) else c.rated))
  rcases h.fuse with ⟨h3, _⟩ | ⟨⟨h3, h4⟩, _⟩
  · rw [h3, if_neg (show ¬ (0 : Int) < 0 by omega), if_pos rfl, if_pos rfl]
    omega
  · rw [if_pos (show 0 < c.rated by omega), if_neg (show ¬ min 1000 (c.rated + m) = 0 by omega), if_neg (show ¬ c.rated = 0 by omega)]
    omega
theorem okCon_wid {i : Nat} {c : GCon} (h : okCon i c = true) {m : Int} (hm : 0 ≤ m) : okCon i (widC m c) = true := by
  unfold okCon okFuse okCable okUp inside at *
  simp only [Bool.and_eq_true, decide_eq_true_eq] at *
  obtain ⟨⟨⟨h0, h1, h2⟩, h3⟩, h4⟩ := h
  refine ⟨⟨⟨h0, ?_, ?_⟩, ?_⟩, h4⟩
  · show 1 ≤ min 1000 (c.limit + m) ∧ min 1000 (c.limit + m) ≤ 1000
    omega
  · show 1 ≤ min 1000 (c.neutral + m) ∧ min 1000 (c.neutral + m) ≤ 1000
    omega
  · show ((if 0 < c.rated then min 1000 (c.rated + m) else c.rated) = 0 ∧ c.heat = 0) ∨ ((1 ≤ (if 0 < c.rated then min 1000 (c.rated + m) else c.rated) ∧ (if 0 < c.rated then min 1000 (c.rated + m) else c.rated) ≤ 1000) ∧ (0 ≤ c.heat ∧ c.heat ≤ 1000000))
    rcases h3 with ⟨h3, h5⟩ | ⟨⟨h3, h5⟩, h6⟩
    · rw [h3, if_neg (show ¬ (0 : Int) < 0 by omega)]
      exact .inl ⟨rfl, h5⟩
    · rw [if_pos (show 0 < c.rated by omega)]
      exact .inr ⟨by omega, h6⟩
theorem okSite_wid {s : GSite} (h : OkSite keyL s) {m : Int} (hm : 0 ≤ m) : OkSite keyL (widS m s) := by
  have hl : (widS m s).cons.length = s.cons.length := List.length_map _
  have hnm : allNames (widS m s) = allNames s := by
    unfold allNames widS
    dsimp only
    rw [List.map_map]
    rfl
  refine ⟨by rw [hl]; exact h.n1, by rw [hl]; exact h.n2, h.n3, h.n4, h.n5, h.n6, by rw [hnm]; exact h.names, ?_, h.ctr, h.cards, ?_, h.bay⟩
  · intro i c hc
    have hc' : (s.cons.map (widC m))[i]? = some c := hc
    rw [List.getElem?_map] at hc'
    cases e : s.cons[i]? with
    | none => rw [e] at hc'; cases hc'
    | some g =>
      rw [e] at hc'
      injection hc' with hc'
      rw [← hc']
      exact okCon_wid (h.con i g e) hm
  · intro c hc
    rw [hl]
    exact h.chg c hc
theorem limAt_wid {s : GSite} (h : OkSite keyL s) {m : Int} (hm : 0 ≤ m) (c : Nat) : limAt s c ≤ limAt (widS m s) c := by
  unfold limAt widS
  dsimp only
  rw [List.getElem?_map]
  cases e : s.cons[c]? with
  | none => exact Int.le_refl _
  | some g => exact limV_wid (h.okC e) hm
theorem upAt_wid (s : GSite) (m : Int) (i : Nat) : upAt (widS m s).cons i = upAt s.cons i := by
  unfold upAt widS
  dsimp only
  rw [List.getElem?_map]
  cases s.cons[i]? <;> rfl
theorem prB_wide {s : GSite} {xs : List Int} {ps : List R3} (h : prB s xs ps = true) {m : Int} (hm : 0 ≤ m) : prB (widS m s) xs ps = true := by
  obtain ⟨h1, h2, h3⟩ := prB_iff.1 h
  unfold loadB at h1
  rw [Bool.and_eq_true] at h1
  have hk := okSB_iff.1 h1.1
  have hl : (widS m s).cons.length = s.cons.length := List.length_map _
  refine prB_yes (loadB_yes (okSB_iff.2 (okSite_wid hk hm)) h1.2) (by rw [hl]; exact h2) ?_
  intro c hc p hp
  rw [hl] at hc
  have h4 := h3 c hc p hp
  have h5 := limAt_wid hk hm c
  have h6 : needP (widS m s) (fI xs) (F3 ps) c p = needP s (fI xs) (F3 ps) c p := by
    unfold needP
    rw [hl]
    congr 1
    unfold fromB
    exact S_congr (fun i _ => by rw [upAt_wid])
  rw [h6]
  exact ⟨h4.1, by omega⟩
theorem prB_lower {s : GSite} {xs ys : List Int} {ps : List R3} (h : prB s xs ps = true) (hy : curB s ys = true) (hf : ∀ i, i < s.chgs.length → fI ys i ≤ fI xs i) : prB s ys ps = true := by
  obtain ⟨h1, h2, h3⟩ := prB_iff.1 h
  unfold loadB at h1
  rw [Bool.and_eq_true] at h1
  exact prB_yes (loadB_yes h1.1 hy) h2 (okPr_less h3 hf)
end Go.Proofs.YtbjmpfchapggfaaGreat
