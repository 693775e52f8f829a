/-
One ampere more for a charger: plain facts.
-/
import Derived.Test.YtpkonifeieepfaaGreatCTpMath
import Derived.Test.YtpkonifeieepfaaGreatGLTreeA
import Derived.Test.YtpkonifeieepfaaGreatGLLimD
namespace Go.Proofs.YtpkonifeieepfaaGreat
open Go.RowKit
set_option linter.unusedVariables false
set_option linter.unusedSimpArgs false
def incF (xs : List Int) (j i : Nat) : Int := if i = j then fI xs i + 1 else fI xs i
def incL (xs : List Int) (j : Nat) : List Int := rowN (incF xs j) xs.length
theorem load_inc {s : GSite} {xs : List Int} (hx : xs.length = s.chgs.length) {j : Nat} (hj : j < xs.length) (t : Nat) : loadS s (fI (incL xs j)) s.chgs.length t = loadS s (fI xs) s.chgs.length t + (if onB s j (t / 3) (t % 3) = true then 1 else 0) := by
  unfold loadS
  rw [S_change (g := fun c => pick (onB s c (t / 3) (t % 3) = true) (fI (incL xs j) c)) (h := fun c => pick (onB s c (t / 3) (t % 3) = true) (fI xs c)) (k := j) (by omega) (fun i hi hne => by
    unfold incL
    rw [fI_rowT (by omega)]
    unfold incF
    rw [if_neg hne])]
  have e : fI (incL xs j) j = fI xs j + 1 := by
    unfold incL
    rw [fI_rowT hj]
    unfold incF
    rw [if_pos rfl]
  rw [e]
  unfold pick
  split <;> omega
/-- Room on one phase of a conductor. -/
def rmB (s : GSite) (xs : List Int) (j : Nat) (c : Int) (p : Nat) : Bool := !bitP (phOf s j) p || decide (loadS s (fI xs) s.chgs.length (c.toNat * 3 + p) < limAt s c.toNat)
/-- Room on the first m phases of a conductor. -/
def rmC (s : GSite) (xs : List Int) (j : Nat) (c : Int) (m : Nat) : Bool := (List.range m).all (rmB s xs j c)
def rmP (s : GSite) (xs : List Int) (j : Nat) (pa : List Int) (k : Nat) : Bool := (pa.take k).all (fun c => rmC s xs j c 3)
theorem rmC_zero (s : GSite) (xs : List Int) (j : Nat) (c : Int) : rmC s xs j c 0 = true := rfl
theorem rmC_succ (s : GSite) (xs : List Int) (j : Nat) (c : Int) (m : Nat) : rmC s xs j c (m + 1) = (rmC s xs j c m && rmB s xs j c m) := by
  unfold rmC
  rw [List.range_succ, List.all_append]
  simp
theorem rmP_zero (s : GSite) (xs : List Int) (j : Nat) (pa : List Int) : rmP s xs j pa 0 = true := rfl
theorem rmP_succ {s : GSite} {xs : List Int} {j : Nat} {pa : List Int} {k : Nat} (hk : k < pa.length) : rmP s xs j pa (k + 1) = (rmP s xs j pa k && rmC s xs j (fI pa k) 3) := by
  unfold rmP
  rw [List.take_add_one, List.all_append]
  have e : pa[k]?.toList = [fI pa k] := by
    unfold fI
    rw [List.getElem?_eq_getElem hk]
    rfl
  rw [e]
  simp
theorem rmP_all {s : GSite} {xs : List Int} {j : Nat} {pa : List Int} : rmP s xs j pa pa.length = true ↔ ∀ c, c ∈ pa → ∀ p, p < 3 → rmB s xs j c p = true := by
  unfold rmP rmC
  rw [List.take_length]
  simp only [List.all_eq_true, List.mem_range]
theorem path_mem {s : GSite} (hk : OkSite keyL s) {j : Nat} (hj : j < s.chgs.length) {c : Int} (hc : c ∈ pthI s.cons (placeOf s j)) : 0 ≤ c ∧ c < s.cons.length ∧ c.toNat ∈ pth s.cons (placeOf s j : Nat) := by
  have hg : s.chgs[j]? = some s.chgs[j] := List.getElem?_eq_getElem hj
  obtain ⟨p1, p2, p3⟩ := hk.place hg
  unfold pthI at hc
  obtain ⟨a, ha, rfl⟩ := List.mem_map.1 hc
  have := pth_le hk.ups (placeOf s j) (by omega) a ha
  refine ⟨by omega, by omega, ?_⟩
  rw [Int.toNat_natCast]
  exact ha
theorem limO_at {s : GSite} (h : okSB keyL s = true) {c : Int} (h0 : 0 ≤ c) (h1 : c < s.cons.length) : okCo s c = true ∧ limO s c = limAt s c.toNat := by
  have := okCo_yes h ⟨h0, h1⟩
  exact ⟨this, limO_yes this⟩
/-- One ampere more can be proved if and only if there is room on the way. -/
theorem inc_vio {s : GSite} {xs : List Int} (hl : loadB s xs = true) (hv : vioO s xs = none) {j : Nat} (hj : j < xs.length) (hm : loadB s (incL xs j) = true) : (vioO s (incL xs j) = none ↔ rmP s xs j (pthI s.cons (placeOf s j)) (pthI s.cons (placeOf s j)).length = true) := by
  obtain ⟨hk, hn, _⟩ := loadB_iff' hl
  rw [rmP_all]
  constructor
  · intro h c hc p hp
    obtain ⟨h0, h1, h2⟩ := path_mem hk (by omega) hc
    unfold rmB
    cases hb : bitP (phOf s j) p with
    | false => rfl
    | true =>
      have ht : c.toNat * 3 + p < s.cons.length * 3 := by omega
      have h3 := vio_none hm h ht
      rw [load_inc hn hj] at h3
      rw [show (c.toNat * 3 + p) / 3 = c.toNat by omega, show (c.toNat * 3 + p) % 3 = p by omega] at h3
      have hon : onB s j c.toNat p = true := by
        unfold onB
        rw [hb, decide_eq_true h2]
        rfl
      rw [if_pos hon] at h3
      show (false || decide _) = true
      rw [Bool.false_or, decide_eq_true_eq]
      omega
  · intro h
    refine vio_none_of hm (fun t ht => ?_)
    rw [load_inc hn hj]
    have h3 := vio_none hl hv ht
    by_cases hon : onB s j (t / 3) (t % 3) = true
    · rw [if_pos hon]
      unfold onB at hon
      rw [Bool.and_eq_true, decide_eq_true_eq] at hon
      have h4 := h ((t / 3 : Nat) : Int) (by unfold pthI; exact List.mem_map.2 ⟨t / 3, hon.2, rfl⟩) (t % 3) (by omega)
      unfold rmB at h4
      rw [hon.1, Int.toNat_natCast, show t / 3 * 3 + t % 3 = t by omega] at h4
      have h5 : decide (loadS s (fI xs) s.chgs.length t < limAt s (t / 3)) = true := h4
      rw [decide_eq_true_eq] at h5
      omega
    · rw [if_neg hon]
      omega
theorem inc_load {s : GSite} {xs : List Int} (hl : loadB s xs = true) {j : Nat} (hj : j < xs.length) (h80 : fI xs j < 80) : loadB s (incL xs j) = true := by
  obtain ⟨hk, hn, hb⟩ := loadB_iff' hl
  unfold loadB
  rw [Bool.and_eq_true]
  refine ⟨okSB_iff.2 hk, curB_iff.2 ⟨by unfold incL; rw [rowN_len]; exact hn, fun i hi => ?_⟩⟩
  have hi' : i < xs.length := by unfold incL at hi; rw [rowN_len] at hi; exact hi
  unfold incL
  rw [fI_rowT hi']
  have := hb i hi'
  unfold incF
  split
  · rename_i e
    subst e
    omega
  · exact this
/-- What Prove says of it. -/
theorem inc_pv {s : GSite} {xs : List Int} (hl : loadB s xs = true) (hv : vioO s xs = none) {j : Nat} (hj : j < xs.length) (h80 : fI xs j < 80) {ps : List R3} {ws : List Int} {er : Int} (h : PvR s (incL xs j) ps ws er) : (rmP s xs j (pthI s.cons (placeOf s j)) (pthI s.cons (placeOf s j)).length = true ∧ er = 0) ∨ (rmP s xs j (pthI s.cons (placeOf s j)) (pthI s.cons (placeOf s j)).length = false ∧ er = 13) := by
  have hm := inc_load hl hj h80
  have hi := inc_vio hl hv hj hm
  rcases h with ⟨h, _⟩ | ⟨_, t, h1, _, h2, _⟩ | ⟨_, h1, _, _, h2⟩
  · rw [hm] at h; cases h
  · refine .inr ⟨?_, h2⟩
    rw [Bool.eq_false_iff]
    intro hr
    rw [hi.2 hr] at h1
    cases h1
  · exact .inl ⟨hi.1 h1, h2⟩
end Go.Proofs.YtpkonifeieepfaaGreat
