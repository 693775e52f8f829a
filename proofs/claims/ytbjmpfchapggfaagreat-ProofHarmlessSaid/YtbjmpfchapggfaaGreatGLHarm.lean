/-
Several texts in one: HarmMath, HarmB, HarmC, HarmA, HarmD, HarmE.
-/
import Derived.Test.YtbjmpfchapggfaaGreatGLLimA
import Derived.Test.YtbjmpfchapggfaaGreatGLLimD
import Derived.Test.YtbjmpfchapggfaaGreatGLLimG
import Derived.Test.YtbjmpfchapggfaaGreatGBase
import Derived.Laws.EntriesVeiled
import Derived.Test.YtbjmpfchapggfaaGreatGLOpen
import Derived.Test.YtbjmpfchapggfaaGreatGLPrA
/-
Plain: the neutral conductor, the warming of a cable.
-/
namespace Go.Proofs.YtbjmpfchapggfaaGreat
set_option linter.unusedVariables false
set_option linter.unusedSimpArgs false
def twoN (a b c : Int) : Int := (a - b) * (a - b) + (b - c) * (b - c) + (c - a) * (c - a)
theorem sq_core {u v m : Int} (hu : 0 ≤ u) (hv : 0 ≤ v) (h : u + v ≤ m) : u * u + v * v + (u + v) * (u + v) ≤ 2 * (m * m) := by
  have h1 : 0 ≤ u * v := Int.mul_nonneg hu hv
  have h2 : (u + v) * (u + v) ≤ m * m := Int.mul_le_mul h h (by omega) (by omega)
  have h3 : (u + v) * (u + v) = u * u + v * v + 2 * (u * v) := by
    rw [Int.add_mul, Int.mul_add, Int.mul_add, Int.mul_comm v u]
    omega
  omega
theorem twoN_le {a b c m : Int} (ha : 0 ≤ a ∧ a ≤ m) (hb : 0 ≤ b ∧ b ≤ m) (hc : 0 ≤ c ∧ c ≤ m) : twoN a b c ≤ 2 * (m * m) := by
  unfold twoN
  rcases Int.le_total b a with h1 | h1 <;> rcases Int.le_total c b with h2 | h2 <;> rcases Int.le_total c a with h3 | h3
  · have h := sq_core (u := a - b) (v := b - c) (m := m) (by omega) (by omega) (by omega)
    rw [show c - a = -((a - b) + (b - c)) by omega, Int.neg_mul_neg]
    exact h
  · have e : c = a := by omega
    have e2 : b = a := by omega
    subst e e2
    have h := sq_core (u := 0) (v := 0) (m := m) (by omega) (by omega) (by omega)
    simp at h ⊢
    omega
  · have h := sq_core (u := a - c) (v := c - b) (m := m) (by omega) (by omega) (by omega)
    rw [show a - b = (a - c) + (c - b) by omega, show b - c = -(c - b) by omega, show c - a = -(a - c) by omega, Int.neg_mul_neg, Int.neg_mul_neg]
    omega
  · have h := sq_core (u := c - a) (v := a - b) (m := m) (by omega) (by omega) (by omega)
    rw [show b - c = -((c - a) + (a - b)) by omega, Int.neg_mul_neg]
    omega
  · have h := sq_core (u := b - a) (v := a - c) (m := m) (by omega) (by omega) (by omega)
    rw [show b - c = (b - a) + (a - c) by omega, show a - b = -(b - a) by omega, show c - a = -(a - c) by omega, Int.neg_mul_neg, Int.neg_mul_neg]
    omega
  · have h := sq_core (u := b - c) (v := c - a) (m := m) (by omega) (by omega) (by omega)
    rw [show a - b = -((b - c) + (c - a)) by omega, Int.neg_mul_neg]
    omega
  · have e : c = a := by omega
    have e2 : b = a := by omega
    subst e e2
    have h := sq_core (u := 0) (v := 0) (m := m) (by omega) (by omega) (by omega)
    simp at h ⊢
    omega
  · have h := sq_core (u := c - b) (v := b - a) (m := m) (by omega) (by omega) (by omega)
    rw [show c - a = (c - b) + (b - a) by omega, show a - b = -(b - a) by omega, show b - c = -(c - b) by omega, Int.neg_mul_neg, Int.neg_mul_neg]
    omega
/-- Division, rounded up. -/
def upV (n d : Int) : Int := if 0 < n.tmod d then n.tdiv d + 1 else n.tdiv d
theorem upV_le {n d k : Int} (hd : 0 < d) (hk : 0 ≤ k) (h : n ≤ d * k) : upV n d ≤ k := by
  have e := Int.mul_tdiv_add_tmod n d
  unfold upV
  by_cases hn : 0 ≤ n
  · have h1 := Int.tmod_nonneg d hn
    by_cases hr : 0 < n.tmod d
    · rw [if_pos hr]
      have : d * n.tdiv d < d * k := by omega
      have := Int.lt_of_mul_lt_mul_left this (by omega)
      omega
    · rw [if_neg hr]
      have : d * n.tdiv d ≤ d * k := by omega
      exact Int.le_of_mul_le_mul_left this hd
  · have h1 : n.tmod d ≤ 0 := by
      have := Int.tmod_nonneg d (show 0 ≤ -n by omega)
      rw [Int.neg_tmod] at this
      omega
    have h2 : n.tdiv d ≤ 0 := by
      have := Int.tdiv_nonneg (show 0 ≤ -n by omega) (show 0 ≤ d by omega)
      rw [Int.neg_tdiv] at this
      omega
    rw [if_neg (by omega)]
    omega
theorem upV_ge {n d k : Int} (hd : 0 < d) (hk : 0 ≤ k) (h : -(d * k) ≤ n) : -k ≤ upV n d := by
  have e := Int.mul_tdiv_add_tmod n d
  unfold upV
  by_cases hn : 0 ≤ n
  · have h2 := Int.tdiv_nonneg hn (show 0 ≤ d by omega)
    split <;> omega
  · have h1 : n.tmod d ≤ 0 := by
      have := Int.tmod_nonneg d (show 0 ≤ -n by omega)
      rw [Int.neg_tmod] at this
      omega
    rw [if_neg (by omega)]
    have : d * (-k) ≤ d * n.tdiv d := by rw [Int.mul_neg]; omega
    exact Int.le_of_mul_le_mul_left this hd
/-- The temperature stays between Ambient and Most. -/
theorem warm_step {c : GCon} {a now : Int} (hl : 0 ≤ c.loss) (hd : 1 ≤ c.den) (hg : 0 ≤ c.gain) (ha : 0 ≤ a) (hok : c.gain * a * a ≤ roomC c) (h1 : c.amb ≤ now) (h2 : now ≤ c.most) :
    c.amb ≤ now + upV (c.gain * a * a - min c.loss c.den * (now - c.amb)) c.den ∧ now + upV (c.gain * a * a - min c.loss c.den * (now - c.amb)) c.den ≤ c.most := by
  have hq : 0 ≤ c.gain * a * a := Int.mul_nonneg (Int.mul_nonneg hg ha) ha
  unfold roomC at hok
  generalize c.gain * a * a = q at *
  generalize hL : min c.loss c.den = l at *
  have hl0 : 0 ≤ l := by omega
  have hld : l ≤ c.den := by omega
  constructor
  · have h3 : l * (now - c.amb) ≤ c.den * (now - c.amb) := Int.mul_le_mul_of_nonneg_right hld (by omega)
    have h4 := upV_ge (n := q - l * (now - c.amb)) (d := c.den) (k := now - c.amb) (by omega) (by omega) (by omega)
    omega
  · have h3 : l * (c.most - now) ≤ c.den * (c.most - now) := Int.mul_le_mul_of_nonneg_right hld (by omega)
    have h5 : l * (c.most - c.amb) = l * (c.most - now) + l * (now - c.amb) := by rw [← Int.mul_add]; congr 1; omega
    have h4 := upV_le (n := q - l * (now - c.amb)) (d := c.den) (k := c.most - now) (by omega) (by omega) (by omega)
    omega
end Go.Proofs.YtbjmpfchapggfaaGreat
/-
fuse.Melts: a fuse that does not melt.
-/
namespace Go.Proofs.YtbjmpfchapggfaaGreat
open Go.RowKit Go.Shelf
set_option linter.unusedVariables false
set_option linter.unusedSimpArgs false
theorem setCell_same {w : World} {b i : Nat} {v : Value} {cs : Array Value} {t : TypeId} {fr : Nat × Nat} (h : w.heap[b]? = some (.cells cs t fr)) (hc : cs[i]? = some v) : w.setCell ⟨b, i, none⟩ v = w := by
  obtain ⟨heap, tape, drawn, os, output⟩ := w
  unfold World.setCell
  dsimp only at h ⊢
  congr 1
  apply Array.ext_getElem?
  intro k
  rw [Array.getElem?_modify]
  by_cases e : b = k
  · subst e
    rw [if_pos rfl, h]
    show some (Obj.cells (if (none : Option _).isSome = true then cs else cs.setIfInBounds i v) t fr) = _
    rw [if_neg (by simp)]
    congr 2
    apply Array.ext_getElem?
    intro j
    rw [Array.getElem?_setIfInBounds]
    by_cases e2 : i = j
    · subst e2
      rw [if_pos rfl]
      have := (Array.getElem?_eq_some_iff.1 hc).1
      rw [if_pos this, hc]
    · rw [if_neg e2]
  · rw [if_neg e]
theorem Own.set_same {w : World} {g : Nat} {t : TypeId} {n : Nat} {f : Nat → Value} (h : Own w g t n f) {i : Nat} (hi : i < n) {v : Value} (hv : f i = v) : w.setCell ⟨g, i, none⟩ v = w := by
  obtain ⟨cs, hb, hs, hc⟩ := h
  exact setCell_same hb (by rw [hc i hi, hv])
theorem grown_noneH {A B : World} (h : Below A.heap.size A B) : A.grownBy B none := ⟨h.os, h.tape, h.output, h.size, fun i hi _ => h.block i hi⟩
theorem eq_fuse (a m : Int) (W : World) : (Op.equalIn 10000 46 (.agg #[.int .i64 a, .int .i64 m]) (.agg #[.int .i64 0, .int .i64 0])).run Tryz.prog W = .ok (decide (a = 0 ∧ m = 0)) W := by
  go_simp
  by_cases h0 : a = 0 <;> by_cases h1 : m = 0 <;> simp [h0, h1]
set_option maxRecDepth 100000 in
theorem fuBounded_yes (n a b : Int) (h1 : a ≤ n) (h2 : n ≤ b) (w : World) : Calls Tryz.prog 93 #[.int .i64 n, .int .i64 a, .int .i64 b] w fun e w' => e = .returned (.int .i64 n) ∧ w' = w := by
  go_enter Tryz.func93, Tryz.ntmps93
  go_wp2
  all_goals
    go_ret
    exact ⟨ret_int (by omega), rfl⟩
set_option maxRecDepth 100000 in
theorem fuInside_yes (n a b : Int) (h1 : a ≤ n) (h2 : n ≤ b) (w : World) : Calls Tryz.prog 61 #[.int .i64 n, .int .i64 a, .int .i64 b] w fun e w' => e = .returned (.bool true) ∧ w' = w := by
  go_enter Tryz.func61, Tryz.ntmps61
  go_wp2_with fail
  refine (fuBounded_yes n a b h1 h2 w).mono ?_
  rintro e w' ⟨rfl, hw⟩
  subst w'
  go_wp2_with fail
  go_ret
  exact ⟨rfl, rfl⟩
set_option maxRecDepth 100000 in
theorem fuIsCur_yes (n : Int) (h1 : 0 ≤ n) (h2 : n ≤ 1000) (w : World) : Calls Tryz.prog 38 #[.int .i64 n] w fun e w' => e = .returned (.bool true) ∧ w' = w := by
  go_enter Tryz.func38, Tryz.ntmps38
  go_wp2_with fail
  refine (fuInside_yes n 0 1000 h1 h2 w).mono ?_
  rintro e w' ⟨rfl, hw⟩
  subst w'
  go_wp2_with fail
  go_ret
  exact ⟨rfl, rfl⟩
set_option maxRecDepth 100000 in
set_option maxHeartbeats 4000000 in
theorem fuValid_ok (c : GCon) (hc : OkC c) (w : World) : Calls Tryz.prog 37 #[.agg #[.int .i64 c.rated, .int .i64 c.heat]] w fun e w' => e = .returned (.bool true) ∧ Below w.heap.size w w' := by
  have HB : Hid (Below w.heap.size w (w.alloc (.cells #[.int .i64 c.rated, .int .i64 c.heat] 46))) := Lib.hid ((Below.refl _ w).alloc (Nat.le_refl _) _)
  have hq0 := fun W => eq_fuse c.rated c.heat W
  go_enter Tryz.func37, Tryz.ntmps37
  rcases hc.fuse with ⟨h1, h2⟩ | ⟨⟨h1, h2⟩, h3, h4⟩
  · have hd : decide (c.rated = 0 ∧ c.heat = 0) = true := decide_eq_true ⟨h1, h2⟩
    rw [hd] at hq0
    clear hd h1 h2
    go_wp2_with fail
    go_ret
    exact ⟨rfl, HB.out⟩
  · have hd : decide (c.rated = 0 ∧ c.heat = 0) = false := decide_eq_false (by omega)
    rw [hd] at hq0
    clear hd
    go_wp2_with fail
    refine (fuInside_yes _ _ _ h1 h2 _).mono ?_
    rintro e w1 ⟨rfl, hw⟩
    subst w1
    go_wp2_with fail
    refine (fuInside_yes _ _ _ h3 (by omega) _).mono ?_
    rintro e w1 ⟨rfl, hw⟩
    subst w1
    go_wp2_with fail
    go_ret
    exact ⟨rfl, HB.out⟩
/-- A fuse with its heat, in memory: the heat is 0. -/
def wfF (c : GCon) (i : Nat) : Value := if i = 0 then .int .i64 c.rated else if i = 1 then .int .i64 c.heat else .int .i64 0
set_option maxRecDepth 100000 in
theorem fuNone_any (b : Nat) (x : Int) (w : World) (k0 : w.cell? ⟨b, 0, none⟩ = some (.int .i64 x)) : Calls Tryz.prog 94 #[.pointer (some ⟨b, 0, none⟩)] w fun e w' => e = .returned (.bool (x == 0)) ∧ w' = w := by
  go_enter Tryz.func94, Tryz.ntmps94
  go_wp2
  go_ret
  exact ⟨rfl, rfl⟩
set_option maxRecDepth 100000 in
theorem fuGain_ok (b : Nat) (a : Int) (c : GCon) (hc : 1 ≤ c.rated ∧ c.rated ≤ 1000) (ha : 0 ≤ a ∧ a ≤ 1000) (w : World) (k0 : w.cell? ⟨b, 0, none⟩ = some (.int .i64 c.rated)) : Calls Tryz.prog 95 #[.pointer (some ⟨b, 0, none⟩), .int .i64 a] w fun e w' => e = .returned (.int .i64 (a * a - c.rated * c.rated)) ∧ ∃ q, w' = w.drewN q := by
  have h1 : 0 ≤ a * a ∧ a * a ≤ 1000 * 1000 := ⟨Int.mul_nonneg ha.1 ha.1, Int.mul_le_mul ha.2 ha.2 ha.1 (by omega)⟩
  have h2 : 0 ≤ c.rated * c.rated ∧ c.rated * c.rated ≤ 1000 * 1000 := ⟨Int.mul_nonneg (by omega) (by omega), Int.mul_le_mul hc.2 hc.2 (by omega) (by omega)⟩
  have w1 : IntKind.i64.wrap (a * a) = a * a := IntWalk.i64_in _ (by omega)
  have w2 : IntKind.i64.wrap (c.rated * c.rated) = c.rated * c.rated := IntWalk.i64_in _ (by omega)
  have w3 : IntKind.i64.wrap (a * a - c.rated * c.rated) = a * a - c.rated * c.rated := IntWalk.i64_in _ (by omega)
  clear h1 h2
  go_enter Tryz.func95, Tryz.ntmps95
  go_wp2_with fail
  go_quiet (fail)
  go_wp2_with fail
  go_ret
  exact ⟨rfl, _, rfl⟩
set_option maxRecDepth 100000 in
theorem fuMelted_no (b : Nat) (c : GCon) (hc : 0 ≤ c.heat) (w : World) (k1 : w.cell? ⟨b, 1, none⟩ = some (.int .i64 c.heat)) (k2 : w.cell? ⟨b, 2, none⟩ = some (.int .i64 0)) : Calls Tryz.prog 40 #[.pointer (some ⟨b, 0, none⟩)] w fun e w' => e = .returned (.bool false) ∧ ∃ q, w' = w.drewN q := by
  have hd : decide (c.heat < 0) = false := decide_eq_false (by omega)
  go_enter Tryz.func40, Tryz.ntmps40
  go_wp2_with fail
  go_quiet (fail)
  go_wp2_with fail
  go_ret
  exact ⟨rfl, _, rfl⟩
set_option maxRecDepth 100000 in
set_option maxHeartbeats 4000000 in
theorem fuTick_ok (b : Nat) (a : Int) (c : GCon) (hr : c.rated = 0 ∨ (1 ≤ c.rated ∧ c.rated ≤ 1000)) (ha : 0 ≤ a ∧ a ≤ 1000) (hm : c.rated = 0 ∨ a ≤ c.rated) (w : World) (HO : Hid (Own w b 95 3 (wfF c))) : Calls Tryz.prog 63 #[.pointer (some ⟨b, 0, none⟩), .int .i64 a] w fun e w' => e = .returned (.tuple #[]) ∧ ∃ q, w' = w.drewN q := by
  have k0 : w.cell? ⟨b, 0, none⟩ = some (.int .i64 c.rated) := HO.out.cell (i := 0) (by omega)
  have k1 : w.cell? ⟨b, 1, none⟩ = some (.int .i64 c.heat) := HO.out.cell (i := 1) (by omega)
  have k2 : w.cell? ⟨b, 2, none⟩ = some (.int .i64 0) := HO.out.cell (i := 2) (by omega)
  go_enter Tryz.func63, Tryz.ntmps63
  go_wp2_with fail
  refine (fuNone_any b c.rated w k0).mono ?_
  rintro e w1 ⟨rfl, hw⟩
  subst w1
  rcases hr with h0 | hc
  · have hb : (c.rated == 0) = true := by simp [h0]
    clear h0 hm
    go_wp2_with fail
    go_end0
    exact ⟨rfl, 0, rfl⟩
  · have hb : (c.rated == 0) = false := by simp; omega
    have hle : a ≤ c.rated := by omega
    have h1 : 0 ≤ a * a ∧ a * a ≤ 1000 * 1000 := ⟨Int.mul_nonneg ha.1 ha.1, Int.mul_le_mul ha.2 ha.2 ha.1 (by omega)⟩
    have h2 : a * a ≤ c.rated * c.rated := Int.mul_le_mul hle hle ha.1 (by omega)
    have h3 : c.rated * c.rated ≤ 1000 * 1000 := Int.mul_le_mul hc.2 hc.2 (by omega) (by omega)
    have hws : IntKind.i64.wrap (a * a - c.rated * c.rated) = a * a - c.rated * c.rated := IntWalk.i64_in _ (by omega)
    have hng : ¬ 0 < a * a - c.rated * c.rated := by omega
    have HFZ0 : Hid (∀ q, (w.drewN q).frozen? ⟨b, 2, none⟩ = false) := Lib.hid (fun q => (HO.out.drewN q).frozen 2)
    have HSS0 : Hid (∀ q, (w.drewN q).setCell ⟨b, 2, none⟩ (.int .i64 0) = w.drewN q) := Lib.hid (fun q => (HO.out.drewN q).set_same (i := 2) (by omega) rfl)
    clear h1 h2 h3 hm
    go_wp2_with fail
    refine region_z (S := fun w' => w'.cell? ⟨b, 0, none⟩ = some (.int .i64 c.rated) ∧ w'.cell? ⟨b, 1, none⟩ = some (.int .i64 c.heat) ∧ w'.cell? ⟨b, 2, none⟩ = some (.int .i64 0)) [12] (by kernel_rfl) ⟨k0, k1, k2⟩ (fun hHeld => ?_)
    clear k0 k1 k2
    refine wpAnyZ_take (i := 0) (v := .pointer (some ⟨b, 0, none⟩)) [10, 11, 12] rfl (by kernel_rfl) (by kernel_rfl) (by kernel_rfl) (by kernel_rfl) (fun _ _ _ h => h) (Or.inl ⟨by kernel_rfl, fun w' hSw => ?_⟩) hHeld ?_
    · have k0 := hSw.1
      have k1 := hSw.2.1
      have k2 := hSw.2.2
      clear hHeld hSw
      go_simp
    simp only [Act.put, List.getElem_toArray, List.getElem_cons_zero, List.getElem_cons_succ, List.setIfInBounds_toArray, List.set_cons_zero, List.set_cons_succ]
    refine wpAnyZ_take (i := 1) (v := .pointer (some ⟨b, 0, none⟩)) [2, 3, 4, 8, 9, 12] rfl (by kernel_rfl) (by kernel_rfl) (by kernel_rfl) (by kernel_rfl) (fun _ _ _ h => h) (Or.inl ⟨by kernel_rfl, fun w' hSw => ?_⟩) hHeld ?_
    · have k0 := hSw.1
      have k1 := hSw.2.1
      have k2 := hSw.2.2
      clear hHeld hSw
      go_simp
    simp only [Act.put, List.getElem_toArray, List.getElem_cons_zero, List.getElem_cons_succ, List.setIfInBounds_toArray, List.set_cons_zero, List.set_cons_succ]
    refine wpAnyZ_take (i := 2) (v := .pointer (some ⟨b, 0, none⟩)) [3, 4, 8, 9, 12] rfl (by kernel_rfl) (by kernel_rfl) (by kernel_rfl) (by kernel_rfl) (fun _ _ _ h => h) (Or.inl ⟨by kernel_rfl, fun w' hSw => ?_⟩) hHeld ?_
    · have k0 := hSw.1
      have k1 := hSw.2.1
      have k2 := hSw.2.2
      clear hHeld hSw
      go_simp
    simp only [Act.put, List.getElem_toArray, List.getElem_cons_zero, List.getElem_cons_succ, List.setIfInBounds_toArray, List.set_cons_zero, List.set_cons_succ]
    refine wpAnyZ_take (i := 3) (v := .pointer (some ⟨b, 2, none⟩)) [4, 8, 9, 12] rfl (by kernel_rfl) (by kernel_rfl) (by kernel_rfl) (by kernel_rfl) (fun _ _ _ h => h) (Or.inl ⟨by kernel_rfl, fun w' hSw => ?_⟩) hHeld ?_
    · have k0 := hSw.1
      have k1 := hSw.2.1
      have k2 := hSw.2.2
      clear hHeld hSw
      go_simp
    simp only [Act.put, List.getElem_toArray, List.getElem_cons_zero, List.getElem_cons_succ, List.setIfInBounds_toArray, List.set_cons_zero, List.set_cons_succ]
    refine wpAnyZ_take (i := 4) (v := .int .i64 0) [8, 9, 12] rfl (by kernel_rfl) (by kernel_rfl) (by kernel_rfl) (by kernel_rfl) (fun _ _ _ h => h) (Or.inl ⟨by kernel_rfl, fun w' hSw => ?_⟩) hHeld ?_
    · have k0 := hSw.1
      have k1 := hSw.2.1
      have k2 := hSw.2.2
      clear hHeld hSw
      go_simp
    simp only [Act.put, List.getElem_toArray, List.getElem_cons_zero, List.getElem_cons_succ, List.setIfInBounds_toArray, List.set_cons_zero, List.set_cons_succ]
    refine wpAnyZ_take (i := 5) (v := .pointer (some ⟨b, 0, none⟩)) [7, 8, 9, 12] rfl (by kernel_rfl) (by kernel_rfl) (by kernel_rfl) (by kernel_rfl) (fun _ _ _ h => h) (Or.inl ⟨by kernel_rfl, fun w' hSw => ?_⟩) hHeld ?_
    · have k0 := hSw.1
      have k1 := hSw.2.1
      have k2 := hSw.2.2
      clear hHeld hSw
      go_simp
    simp only [Act.put, List.getElem_toArray, List.getElem_cons_zero, List.getElem_cons_succ, List.setIfInBounds_toArray, List.set_cons_zero, List.set_cons_succ]
    refine wpAnyZ_take (i := 6) (v := .int .i64 a) [7, 8, 9, 12] rfl (by kernel_rfl) (by kernel_rfl) (by kernel_rfl) (by kernel_rfl) (fun _ _ _ h => h) (Or.inl ⟨by kernel_rfl, fun w' hSw => ?_⟩) hHeld ?_
    · have k0 := hSw.1
      have k1 := hSw.2.1
      have k2 := hSw.2.2
      clear hHeld hSw
      go_simp
    simp only [Act.put, List.getElem_toArray, List.getElem_cons_zero, List.getElem_cons_succ, List.setIfInBounds_toArray, List.set_cons_zero, List.set_cons_succ]
    refine wpAnyZ_one (i := 7) (by kernel_rfl) rfl (fun K' hK => ?_)
    go_simp
    obtain ⟨k0, k1, k2⟩ := hHeld
    refine (fuGain_ok b a c hc ha _ k0).mono ?_
    rintro e w4 ⟨rfl, q4, hq4⟩
    subst w4
    refine hK.out _ _ ?_ (fun hHeld' => ?_)
    · exact ⟨k0, k1, k2⟩
    clear hK K'
    have hHeld := hHeld'
    clear hHeld'
    try simp only [Act.put, List.getElem_toArray, List.getElem_cons_zero, List.getElem_cons_succ, List.setIfInBounds_toArray, List.set_cons_zero, List.set_cons_succ]
    refine wpAnyZ_take (i := 8) (v := .int .i64 (a * a - c.rated * c.rated)) [9, 12] rfl (by kernel_rfl) (by kernel_rfl) (by kernel_rfl) (by kernel_rfl) (fun _ _ _ h => h) (Or.inl ⟨by kernel_rfl, fun w' hSw => ?_⟩) hHeld ?_
    · clear hHeld hSw
      go_simp
    simp only [Act.put, List.getElem_toArray, List.getElem_cons_zero, List.getElem_cons_succ, List.setIfInBounds_toArray, List.set_cons_zero, List.set_cons_succ]
    refine wpAnyZ_take (i := 9) (v := .int .i64 0) [12] rfl (by kernel_rfl) (by kernel_rfl) (by kernel_rfl) (by kernel_rfl) (fun _ _ _ h => h) (Or.inl ⟨by kernel_rfl, fun w' hSw => ?_⟩) hHeld ?_
    · clear hHeld hSw
      go_simp
      all_goals (intro hh; omega)
    simp only [Act.put, List.getElem_toArray, List.getElem_cons_zero, List.getElem_cons_succ, List.setIfInBounds_toArray, List.set_cons_zero, List.set_cons_succ]
    refine wpAnyZ_take (i := 10) (v := .pointer (some ⟨b, 0, none⟩)) [11, 12] rfl (by kernel_rfl) (by kernel_rfl) (by kernel_rfl) (by kernel_rfl) (fun _ _ _ h => h) (Or.inl ⟨by kernel_rfl, fun w' hSw => ?_⟩) hHeld ?_
    · clear hHeld hSw
      go_simp
    simp only [Act.put, List.getElem_toArray, List.getElem_cons_zero, List.getElem_cons_succ, List.setIfInBounds_toArray, List.set_cons_zero, List.set_cons_succ]
    refine wpAnyZ_take (i := 11) (v := .pointer (some ⟨b, 2, none⟩)) [12] rfl (by kernel_rfl) (by kernel_rfl) (by kernel_rfl) (by kernel_rfl) (fun _ _ _ h => h) (Or.inl ⟨by kernel_rfl, fun w' hSw => ?_⟩) hHeld ?_
    · clear hHeld hSw
      go_simp
    simp only [Act.put, List.getElem_toArray, List.getElem_cons_zero, List.getElem_cons_succ, List.setIfInBounds_toArray, List.set_cons_zero, List.set_cons_succ]
    refine wpAnyZ_last (i := 12) (by kernel_rfl) rfl (by kernel_rfl) (fun K' hK => ?_)
    clear hHeld
    have k2 : w.cell? ⟨b, 2, none⟩ = some (.int .i64 0) := HO.out.cell (i := 2) (by omega)
    have hf := HFZ0.out (1 + q4)
    go_simp
    rw [HSS0.out (1 + q4)]
    refine hK.out _ _ ?_
    clear hK K' hf k2
    try simp only [Act.put, List.getElem_toArray, List.getElem_cons_zero, List.getElem_cons_succ, List.setIfInBounds_toArray, List.set_cons_zero, List.set_cons_succ]
    refine wpAnyZ_done (by kernel_rfl) ?_ _
    go_wp2_with fail
    go_end0
    exact ⟨rfl, _, rfl⟩
theorem fuHeats_any (b : Nat) (A : Option Addr) (n cA : Nat) (w : World) : Calls Tryz.prog 39 #[.pointer (some ⟨b, 0, none⟩), .slice A n cA] w fun e w' =>
    e = .returned (.func (.func 62) #[] #[.pointer (some ⟨w.heap.size + 1, 0, none⟩), .pointer (some ⟨w.heap.size, 0, none⟩)]) ∧ w' = (w.alloc (.cells #[.pointer (some ⟨b, 0, none⟩)] 93)).alloc (.cells #[.slice A n cA] 29) := by
  go_enter Tryz.func39, Tryz.ntmps39
  go_wp2_with fail
  go_ret
  refine ⟨?_, rfl⟩
  simp
/-- What a round over the heats may not change. -/
structure KpH (B b bp : Nat) (W W' : World) : Prop where
  bel : Below B W W'
  s1 : W'.heap[b]? = W.heap[b]?
  s2 : W'.heap[bp]? = W.heap[bp]?
theorem Own.blk {w w' : World} {g : Nat} {t : TypeId} {n : Nat} {f : Nat → Value} (h : Own w g t n f) (e : w'.heap[g]? = w.heap[g]?) : Own w' g t n f := by
  obtain ⟨cs, hb, hs, hc⟩ := h
  exact ⟨cs, e.trans hb, hs, hc⟩
abbrev TkAt (n : Nat) : Type := { k : Nat // k < n }
set_option maxRecDepth 100000 in
set_option maxHeartbeats 4000000 in
theorem fuHeats1_in (m : Nat) (hm : 1 ≤ m) (l bx bp b B : Nat) (c : GCon) (hr : c.rated = 0 ∨ (1 ≤ c.rated ∧ c.rated ≤ 1000)) (A : Option Addr) (n cA : Nat) (xs : List Int) (hn : xs.length = n) (hn6 : n ≤ 1000000) (hin : ∀ i, i < n → (0 ≤ fI xs i ∧ fI xs i ≤ 1000) ∧ (c.rated = 0 ∨ fI xs i ≤ c.rated)) (J Jx : List (TkAt n) → World → Prop) (W : World)
    (hJ : AbidesFrom W.heap.size J)
    (hY : ∀ (pre : List (TkAt n)) (x : TkAt n) W1, J pre W1 → pre.length < n → YieldAt Fence.wide (m - 1) Tryz.prog l #[.int .i64 (x.1 : Nat), .int .i64 0] W1 fun e W' =>
      (e = .returned (.bool true) ∧ J (pre ++ [x]) W' ∧ KpH B b bp W1 W') ∨ (e = .returned (.bool false) ∧ Jx (pre ++ [x]) W'))
    (hbx : W.cell? ⟨bx, 0, none⟩ = some (.slice A n cA)) (ho : Own W b 95 3 (wfF c)) (hx : Rd 1 encI W A xs) (hAB : ∀ a, A = some a → a.block < B) (hp : W.cell? ⟨bp, 0, none⟩ = some (.pointer (some ⟨b, 0, none⟩))) (h0 : J [] W) :
    CallsIn Fence.wide m Tryz.prog 62 #[.func (.yield l) #[] #[], .pointer (some ⟨bx, 0, none⟩), .pointer (some ⟨bp, 0, none⟩)] W fun e W' => (∃ v, e = .returned v) ∧
      ((∃ ys : List (TkAt n), ys.map (·.1) = List.range n ∧ J ys W') ∨ (∃ pre : List (TkAt n), pre.map (·.1) <+: List.range n ∧ Jx pre W')) := by
  have HY := Lib.hid hY
  have HJ := Lib.hid hJ
  have HO := Lib.hid ho
  have HX := Lib.hid hx
  have HAB := Lib.hid hAB
  have HIN := Lib.hid hin
  have HN := Lib.hid hn
  have HR := Lib.hid hr
  clear hY hJ hin hn hr ho hx hAB
  refine callsIn_of_wp Tryz.func62 rfl trivial ?_ rfl
  simp only [Tryz.ntmps62, List.size_toArray, List.length_cons, List.length_nil, Nat.reduceAdd, Nat.reduceSub, Array.replicate_succ, Array.replicate_zero, List.push_toArray, List.append_toArray, List.nil_append, List.cons_append]
  gi_wp2
  gi_loopw [8] (fun i wr => ∃ (k : Nat) (pre : List (TkAt n)), i = .int .i64 (k : Nat) ∧ k ≤ n ∧ Hid (pre.map (·.1) = List.range k) ∧ Hid (J pre wr) ∧ Hid (Own wr b 95 3 (wfF c)) ∧ Hid (Rd 1 encI wr A xs) ∧ wr.cell? ⟨bp, 0, none⟩ = some (.pointer (some ⟨b, 0, none⟩))) (fun i _ => (n - (intOf i).toNat))
  case atStart => exact ⟨0, [], by rfl, by omega, Lib.hid (by simp), Lib.hid h0, HO, HX, hp⟩
  case round =>
    clear hbx h0 HO HX hp
    obtain ⟨k, pre, rfl, hk, Hpre, HJp, HO, HX, hp⟩ := hrel
    by_cases hlt : k < n
    · have hltz : (k : Int) < (n : Int) := by omega
      obtain ⟨bA, off, hA, hbl, hc⟩ := Rd.int HX.out (k := k) (by rw [HN.out]; exact hlt)
      have hc' : wr.cell? ⟨bA, off + k, none⟩ = some (.int .i64 (fI xs k)) := hc
      obtain ⟨hi1, hi2⟩ := HIN.out k hlt
      have HT := Lib.hid (fuTick_ok b (fI xs k) c HR.out hi1 hi2 wr HO)
      have hpl : pre.length < n := by
        have := congrArg List.length Hpre.out
        simp at this
        omega
      have HNX : Hid ((pre ++ [(⟨k, hlt⟩ : TkAt n)]).map (·.1) = List.range (k + 1)) := Lib.hid (by
        rw [List.map_append, Hpre.out, List.range_succ]
        rfl)
      have HPF : Hid ((pre ++ [(⟨k, hlt⟩ : TkAt n)]).map (·.1) <+: List.range n) := Lib.hid (by
        rw [HNX.out]
        exact range_pre (by omega))
      subst hA
      clear hc hi1 hi2
      generalize fI xs k = y at *
      gi_wp2
      refine ⟨trivial, callsIn_wide.2 (HT.out.mono ?_)⟩
      rintro e w4 ⟨rfl, q4, hw4⟩
      subst w4
      have hJ4 : J pre (wr.drewN q4) := HJ.out pre wr _ none HJp.out (grown_noneH (below_drewG _ (Below.refl _ _))) (fun r e => by cases e)
      have k2 : (wr.drewN q4).cell? ⟨b, 2, none⟩ = some (.int .i64 0) := HO.out.cell (i := 2) (by omega)
      obtain ⟨fn, tmps, assign, body, hy, hRd⟩ := HY.out pre ⟨k, hlt⟩ (wr.drewN q4) hJ4 hpl
      dsimp only at hy
      clear HT hc'
      gi_wp2
      refine hRd.mono ?_
      rintro e' W3 (⟨rfl, hJ3, hk3⟩ | ⟨rfl, hJx3⟩)
      · have HJ3 := Lib.hid hJ3
        have HO3 : Hid (Own W3 b 95 3 (wfF c)) := Lib.hid (Own.blk (w := wr.drewN q4) (HO.out.drewN q4) hk3.s1)
        have HX3 : Hid (Rd 1 encI W3 (some ⟨bA, off, none⟩) xs) := Lib.hid (Rd.belowB (w := wr.drewN q4) (HX.out.drewN q4) hk3.bel HAB.out)
        have hp3 : W3.cell? ⟨bp, 0, none⟩ = some (.pointer (some ⟨b, 0, none⟩)) := (World.cell?_of_block (w := wr.drewN q4) (a := ⟨bp, 0, none⟩) hk3.s2).trans hp
        clear hJ3 k2 hp
        gi_wp2
        go_roundw
        case rel => exact ⟨k + 1, _, by simp, by omega, HNX, HJ3, HO3, HX3, hp3⟩
        case measure => simp [intOf]; omega
      · gi_wp2
        refine bodyPost_ret (results_none rfl _ _ _) rfl ?_
        exact ⟨⟨_, rfl⟩, .inr ⟨_, HPF.out, hJx3⟩⟩
    · have hltz : ¬ (k : Int) < (n : Int) := by omega
      have hkn : k = n := by omega
      subst hkn
      gi_wp2
      go_end0
      exact ⟨⟨_, rfl⟩, .inl ⟨pre, Hpre.out, HJp.out⟩⟩
/-- The loop over the heats of a fuse that does not melt: the rounds never leave it. -/
theorem range_heats {n : Nat} {A : Option Addr} {cA : Nat} {xs : List Int} {c : GCon} (hr : c.rated = 0 ∨ (1 ≤ c.rated ∧ c.rated ≤ 1000)) (hn : xs.length = n) (hn6 : n ≤ 1000000) (hin : ∀ i, i < n → (0 ≤ fI xs i ∧ fI xs i ≤ 1000) ∧ (c.rated = 0 ∨ fI xs i ≤ c.rated)) {g : Operand} {p q : Tmp} {assign body : Code} {Q : Exit → Act → World → Prop} {a : Act} {w : World} (bx bp b B : Nat)
    (hg : a.eval g = .func (.func 62) #[] #[.pointer (some ⟨bx, 0, none⟩), .pointer (some ⟨bp, 0, none⟩)]) (hbx : w.cell? ⟨bx, 0, none⟩ = some (.slice A n cA)) (ho : Own w b 95 3 (wfF c)) (hx : Rd 1 encI w A xs) (hAB : ∀ a, A = some a → a.block < B) (hp : w.cell? ⟨bp, 0, none⟩ = some (.pointer (some ⟨b, 0, none⟩))) (hB : B ≤ w.heap.size)
    (I : List (TkAt n) → World → Prop) (hI : ∀ pre W W', I pre W → Nc w.heap.size W W' → I pre W') (h0 : I [] w) (Ax : TkAt n → Act → Prop)
    (hassign : ∀ (l : Nat) (x : TkAt n) (W : World) (K : Act → World → Prop), (∀ a', Ax x a' → K a' W) → assign.wpIn (Fence.wide.inRound l) 3 Tryz.prog (Exit.then K (fun _ _ _ => False)) { tmps := (a.tmps.setIfInBounds p (.int .i64 (x.1 : Nat))).setIfInBounds q (.int .i64 0), defers := [] } W)
    (hbody : ∀ (l : Nat) (pre : List (TkAt n)) (x : TkAt n) (a' : Act) (W : World), I pre W → Ax x a' → pre.length < n → body.wpIn (Fence.wide.inRound l) 3 Tryz.prog (ownPostG w.heap.size (KpH B b bp) I (fun _ _ _ => False) (pre ++ [x]) W) a' W)
    (hdone : ∀ (D : Nat) (ys : List (TkAt n)) (W : World), w.heap.size ≤ D → ys.map (·.1) = List.range n → I ys W → W.heap[D]? = some (.deferred (some [])) → Q .normal { a with defers := { target := .collected D, args := #[] } :: a.defers } W) :
    (Code.rangeFunc g #[p, q] assign body).wp Tryz.prog Q a w := by
  have lx := World.block_lt_of_cell? w _ hbx
  have lp := World.block_lt_of_cell? w _ hp
  dsimp only at lx lp
  refine (wpIn_wide (n := 5)).1 ?_
  refine wpIn_rangeFunc_ownH (F := Fence.wide) (α := TkAt n) rfl (by omega) (gf := 62) (lb := #[.pointer (some ⟨bx, 0, none⟩), .pointer (some ⟨bp, 0, none⟩)]) hg trivial (enters_of Tryz.func62 (by kernel_rfl) rfl)
    (encs := fun x => #[.int .i64 (x.1 : Nat), .int .i64 0]) (Kp := KpH B b bp) (S := fun (ys : List (TkAt n)) => ys.map (·.1) = List.range n) (Sp := fun (ys : List (TkAt n)) => List.IsPrefix (ys.map (fun (x : TkAt n) => x.1)) (List.range n)) (N := n) (w0 := w)
    (fun l J Jx W' hW' hJ _ hY h0 => fuHeats1_in 4 (by omega) l bx bp b B c hr A n cA xs hn hn6 hin J Jx W' hJ hY ((hW'.cell (p := ⟨bx, 0, none⟩) lx).trans hbx) (ho.keep hW' ho.lt) (hx.keep hW') hAB ((hW'.cell (p := ⟨bp, 0, none⟩) lp).trans hp) h0)
    ?hKt ?hKb (Below.refl _ _) (fun _ => rfl) I (fun _ _ _ => False) ?hI (fun _ _ _ _ _ h _ _ => h) h0 (fun x a' _ => Ax x a') (fun _ _ _ _ _ _ h _ _ => h) ?assign ?body ?done (fun _ _ _ _ _ _ h _ => h.elim)
  case hKt => exact fun h1 h2 => ⟨h1.bel.trans h2.bel, h2.s1.trans h1.s1, h2.s2.trans h1.s2⟩
  case hKb =>
    intro W' l o o' hl ho' _ _
    have := ho.lt
    exact ⟨⟨rfl, rfl, rfl, by simp, fun k hk => World.putObj_heap_other (by omega)⟩, World.putObj_heap_other (by omega), World.putObj_heap_other (by omega)⟩
  case hI => exact fun pre W1 W2 row h hg hr => hI pre W1 W2 h ⟨row, hg, hr⟩
  case assign =>
    intro l pre x W1 K hi hK
    have ht : (#[p, q].zip #[Value.int .i64 (x.1 : Nat), Value.int .i64 0]).foldl (fun t (p, v) => t.setIfInBounds p v) a.tmps = (a.tmps.setIfInBounds p (.int .i64 (x.1 : Nat))).setIfInBounds q (.int .i64 0) := by simp
    rw [ht]
    exact hassign l x W1 K (fun a' hx => hK a' W1 (KeepsFrom.refl _ _) ⟨Below.refl _ _, rfl, rfl⟩ hi hx)
  case body =>
    intro l pre x a' W1 hl hlr hi hx hlen
    exact hbody l pre x a' W1 hi hx hlen
  case done => exact fun D ys W1 hD hS hi hdf => hdone D ys W1 hD hS hi hdf
end Go.Proofs.YtbjmpfchapggfaaGreat
/-
fuse.Melts: a fuse that does not melt.
-/
namespace Go.Proofs.YtbjmpfchapggfaaGreat
open Go.RowKit Go.Shelf
attribute [local go_sem] Oper.semAt_some
set_option linter.unusedVariables false
set_option linter.unusedSimpArgs false
theorem results_c2 {P : Program} {fn : Func} {a b : Tmp} {ta tb : TypeId} {tmps : Array Value} {ba bb : Nat} {u v : Value} {w : World} (h : fn.results = #[.cell a ta, .cell b tb]) (ha : tmps.getD a undef = .pointer (some ⟨ba, 0, none⟩)) (hb : tmps.getD b undef = .pointer (some ⟨bb, 0, none⟩))
    (hla : (loadVar ta ⟨ba, 0, none⟩).run P w = .ok u w) (hlb : (loadVar tb ⟨bb, 0, none⟩).run P w = .ok v w) :
    (results fn tmps).run P w = .ok (.tuple #[u, v]) w := by
  have ha' : tmps[a]?.getD undef = .pointer (some ⟨ba, 0, none⟩) := by simpa using ha
  have hb' : tmps[b]?.getD undef = .pointer (some ⟨bb, 0, none⟩) := by simpa using hb
  simp [results, h, ha', hb', hla, hlb, asAddr]
theorem load_intH {W : World} {b : Nat} {v : Int} (h : Own W b 3 1 (fun _ => .int .i64 v)) : (loadVar 3 ⟨b, 0, none⟩).run Tryz.prog W = .ok (.int .i64 v) W := by
  have c0 : W.cell? ⟨b, 0, none⟩ = some (.int .i64 v) := h.cell (i := 0) (by omega)
  go_simp
theorem Own.takenH {w w' : World} {g : Nat} {t : TypeId} {n : Nat} {f : Nat → Value} {B : Nat} (h : Own w g t n f) (hT : Taken B w w') : Own w' g t n f := by
  obtain ⟨cs, hb, hs, hc⟩ := h
  exact ⟨cs, hT.2.2.2.2.2 g _ hb rfl, hs, hc⟩
def FkA (w : World) (M : Nat) (x : Nat) (a' : Act) : Prop := ∃ u0 u1 u3 u6 u7 u10 u11 u12 u13 u14 u15 u16 u17 u18 u19 u20 u21 u22 u23 u24 u25 u26 u27 u28 u29 u30 u31 u32 u33 u34 u35 u36, a' = ⟨List.toArray (u0 :: u1 :: (.pointer (some ⟨w.heap.size, 0, none⟩)) :: u3 :: (.pointer (some ⟨w.heap.size + 1, 0, none⟩)) :: (.pointer (some ⟨w.heap.size + 2, 0, none⟩)) :: u6 :: u7 :: (.pointer (some ⟨M, 0, none⟩)) :: (.int .i64 (x : Nat)) :: u10 :: u11 :: u12 :: u13 :: u14 :: u15 :: u16 :: u17 :: u18 :: u19 :: u20 :: u21 :: u22 :: u23 :: u24 :: u25 :: u26 :: u27 :: u28 :: u29 :: u30 :: u31 :: u32 :: u33 :: u34 :: u35 :: u36 :: []), []⟩
structure FkM (w W : World) (b M : Nat) (c : GCon) : Prop where
  o1 : Own W (w.heap.size + 1) 3 1 (fun _ => .int .i64 0)
  o2 : Own W (w.heap.size + 2) 41 1 (fun _ => .int .i64 0)
  ow : Own W b 95 3 (wfF c)
  km : W.cell? ⟨M, 0, none⟩ = some (.pointer (some ⟨b, 0, none⟩))
  bel : Below w.heap.size w W
theorem FkM.nc {w W W' : World} {b M B : Nat} {c : GCon} (h : FkM w W b M c) (hn : Nc B W W') (hB : w.heap.size ≤ B) : FkM w W' b M c :=
  ⟨h.o1.nc hn, h.o2.nc hn, h.ow.nc hn, cell_nc1 h.km hn, below_nc h.bel (Nat.le_refl _) hn hB⟩
theorem FkM.keep {w W W' : World} {b M : Nat} {c : GCon} (h : FkM w W b M c) (hb : Below W.heap.size W W') : FkM w W' b M c :=
  ⟨h.o1.keep hb h.o1.lt, h.o2.keep hb h.o2.lt, h.ow.keep hb h.ow.lt, (hb.cell (p := ⟨M, 0, none⟩) (World.block_lt_of_cell? _ _ h.km)).trans h.km, below_then h.bel hb⟩
set_option maxRecDepth 100000 in
set_option maxHeartbeats 8000000 in
theorem fuMelts_ok (c : GCon) (hc : OkC c) (A : Option Addr) (n cA : Nat) (xs : List Int) (w : World) (HX : Hid (Rd 1 encI w A xs)) (HN : Hid (xs.length = n)) (hn : n ≤ 10000) (HIN : Hid (∀ i, i < n → (0 ≤ fI xs i ∧ fI xs i ≤ 1000) ∧ (c.rated = 0 ∨ fI xs i ≤ c.rated))) (HAB : Hid (∀ a, A = some a → a.block < w.heap.size)) :
    Calls Tryz.prog 14 #[.agg #[.int .i64 c.rated, .int .i64 c.heat], .slice A n cA] w fun e w' => e = .returned (.tuple #[.int .i64 (-1), .int .i64 0]) ∧ Below w.heap.size w w' := by
  obtain ⟨W0, hW0⟩ : ∃ W0, W0 = ((w.alloc (.cells #[.int .i64 c.rated, .int .i64 c.heat] 46)).alloc (.cells #[.int .i64 0] 3)).alloc (.cells #[.int .i64 0] 41) := ⟨_, rfl⟩
  have b0 : Below w.heap.size w W0 := by rw [hW0]; exact (((Below.refl _ w).alloc (Nat.le_refl _) _).alloc (by simp) _).alloc (by simp; omega) _
  have q0 : W0.cell? ⟨w.heap.size, 0, none⟩ = some (.int .i64 c.rated) := by rw [hW0]; go_simp
  have q1 : W0.cell? ⟨w.heap.size, 1, none⟩ = some (.int .i64 c.heat) := by rw [hW0]; go_simp
  have o1 : Own W0 (w.heap.size + 1) 3 1 (fun _ => .int .i64 0) := by
    have h := Own.one (w.alloc (.cells #[.int .i64 c.rated, .int .i64 c.heat] 46)) 3 (.int .i64 0)
    rw [World.size_alloc] at h
    rw [hW0]; exact h.alloc _
  have o2 : Own W0 (w.heap.size + 2) 41 1 (fun _ => .int .i64 0) := by
    have h := Own.one ((w.alloc (.cells #[.int .i64 c.rated, .int .i64 c.heat] 46)).alloc (.cells #[.int .i64 0] 3)) 41 (.int .i64 0)
    rw [World.size_alloc, World.size_alloc] at h
    rw [hW0]; exact h
  have z0 : W0.heap.size = w.heap.size + 3 := by rw [hW0]; simp
  have HV := Lib.hid (fuValid_ok c hc W0)
  have HOC := Lib.hid hc
  have HR : Hid (c.rated = 0 ∨ (1 ≤ c.rated ∧ c.rated ≤ 1000)) := Lib.hid (by rcases hc.fuse with h | h; exact .inl h.1; exact .inr h.1)
  have HH : Hid (0 ≤ c.heat) := Lib.hid (by rcases hc.fuse with h | h <;> omega)
  have HW0 := Lib.hid hW0
  clear hW0 hc
  refine (callsIn_wide (n := 5)).1 ?_
  refine callsIn_of_wp_marks Tryz.func14 rfl trivial ?_ rfl
  refine wpIn_wide.2 ?_
  simp only [Tryz.ntmps14, List.size_toArray, List.length_cons, List.length_nil, Nat.reduceAdd, Nat.reduceSub, Array.replicate_succ, Array.replicate_zero, List.push_toArray, List.append_toArray, List.nil_append, List.cons_append]
  have hnz : ¬ (10000 : Int) < (n : Int) := by omega
  go_wp2_with fail
  rw [← HW0.out]
  refine HV.out.mono ?_
  rintro e w1 ⟨rfl, hb1⟩
  have HBB := Lib.hid (below_then b0 hb1)
  have HZ1 : Hid (w.heap.size + 3 ≤ w1.heap.size) := Lib.hid (by have := hb1.size; omega)
  have HO1 := Lib.hid (o1.keep hb1 o1.lt)
  have HO2 := Lib.hid (o2.keep hb1 o2.lt)
  have p0 := (hb1.cell (p := ⟨w.heap.size, 0, none⟩) (World.block_lt_of_cell? _ _ q0)).trans q0
  have p1 := (hb1.cell (p := ⟨w.heap.size, 1, none⟩) (World.block_lt_of_cell? _ _ q1)).trans q1
  clear HV b0 hb1 o1 o2 q0 q1 HW0 z0
  go_wp2_with fail
  go_loopg [18] n (fun g1 v18 wr => ∃ k : Nat, v18 = .int .i64 k ∧ k ≤ n ∧ n - k ≤ g1 ∧ w1 = wr)
  case atStart => exact ⟨0, by go_num, by omega, by omega, rfl⟩
  case round =>
    obtain ⟨k, rfl, hk, hg1, rfl⟩ := hrel
    by_cases hlt : k < n
    · have hltz : (k : Int) < (n : Int) := by omega
      obtain ⟨bA, off, hA, hb, hc⟩ := HX.out.int (k := k) (by rw [HN.out]; exact hlt)
      have hc' : w1.cell? ⟨bA, off + k, none⟩ = some (.int .i64 (fI xs k)) := (HBB.out.cell (p := ⟨bA, off + k, none⟩) hb).trans hc
      obtain ⟨⟨h1, h2⟩, _⟩ := HIN.out k hlt
      have HCU := Lib.hid (fuIsCur_yes (fI xs k) h1 h2 w1)
      subst hA
      clear hc h1 h2 hb
      generalize fI xs k = y at *
      go_wp2_with fail
      refine HCU.out.mono ?_
      rintro e w2 ⟨rfl, hw⟩
      subst w2
      go_wp2_with fail
      go_roundg (n - (k + 1))
      case measure => omega
      case rel => exact ⟨k + 1, by go_num, by omega, by omega, rfl⟩
    · have hltz : ¬ (k : Int) < (n : Int) := by omega
      clear hg1
      go_wp2_with fail
      obtain ⟨w2, hw2⟩ : ∃ w2, w2 = (w1.alloc (.cells #[.int .i64 c.rated, .int .i64 c.heat, .int .i64 0] 95)).alloc (.cells #[.pointer (some ⟨w1.heap.size, 0, none⟩)] 93) := ⟨_, rfl⟩
      have b2 : Below w1.heap.size w1 w2 := by rw [hw2]; exact ((Below.refl _ w1).alloc (Nat.le_refl _) _).alloc (by simp) _
      have ow2 : Own w2 w1.heap.size 95 3 (wfF c) := by
        rw [hw2]
        exact (Own.newAt w1 95 _ w1.heap.size rfl rfl (fun i hi => by match i, hi with | 0, _ => rfl | 1, _ => rfl | 2, _ => rfl)).alloc _
      have km2 : w2.cell? ⟨w1.heap.size + 1, 0, none⟩ = some (.pointer (some ⟨w1.heap.size, 0, none⟩)) := by rw [hw2]; go_simp
      have HM2 : Hid (FkM w w2 w1.heap.size (w1.heap.size + 1) c) := Lib.hid ⟨HO1.out.keep b2 HO1.out.lt, HO2.out.keep b2 HO2.out.lt, ow2, km2, below_then HBB.out b2⟩
      rw [← hw2]
      clear hw2 ow2
      refine (fuHeats_any w1.heap.size A n cA w2).mono ?_
      rintro e w3 ⟨rfl, hw3⟩
      have b3 : Below w2.heap.size w2 w3 := by rw [hw3]; exact ((Below.refl _ w2).alloc (Nat.le_refl _) _).alloc (by simp) _
      have z1 : w3.cell? ⟨w2.heap.size + 1, 0, none⟩ = some (.slice A n cA) := by rw [hw3]; go_simp
      have z2 : w3.cell? ⟨w2.heap.size, 0, none⟩ = some (.pointer (some ⟨w1.heap.size, 0, none⟩)) := by rw [hw3]; go_simp
      have HM3 := Lib.hid (HM2.out.keep b3)
      have hws : w.heap.size ≤ w3.heap.size := HM3.out.bel.size
      have HZ3 : Hid (w.heap.size + 3 ≤ w3.heap.size) := Lib.hid (by have := HZ1.out; have := b2.size; have := b3.size; omega)
      obtain ⟨b, hb⟩ : ∃ b, b = w1.heap.size := ⟨_, rfl⟩
      rw [← hb] at HM3 z2 ⊢
      have HX3 := Lib.hid (HX.out.keep HM3.out.bel)
      clear hw3 b2 b3 HM2 p0 p1 km2 HBB HO1 HO2 HZ1 hb
      go_wp2_with fail
      refine range_heats HR.out HN.out (by omega) HIN.out (g := .tmp 31) (p := 32) (q := 33) (w2.heap.size + 1) w2.heap.size b w.heap.size rfl z1 HM3.out.ow HX3.out HAB.out z2 hws (fun pre W' => FkM w W' b (b + 1) c) ?hI HM3.out (fun x a' => FkA w (b + 1) x.1 a') ?assign ?body ?done
      case hI => exact fun pre W W' h hn => h.nc hn hws
      case assign =>
        intro l x W1 K hK
        gi_wp2
        exact ⟨_, _, _, _, _, _, _, _, _, _, _, _, _, _, _, _, _, _, _, _, _, _, _, _, _, _, _, _, _, _, _, _, rfl⟩
      case body =>
        rintro l pre ⟨k, hk⟩ a' W1 m ⟨u0, u1, u3, u6, u7, u10, u11, u12, u13, u14, u15, u16, u17, u18, u19, u20, u21, u22, u23, u24, u25, u26, u27, u28, u29, u30, u31, u32, u33, u34, u35, u36, rfl⟩ hlen
        have HM := Lib.hid m
        have km := m.km
        have HME := Lib.hid (fuMelted_no b c HH.out W1 (m.ow.cell (i := 1) (by omega)) (m.ow.cell (i := 2) (by omega)))
        dsimp only at hlen ⊢
        clear m
        gi_wp2
        refine ⟨trivial, CallsIn.inRound l (callsIn_wide.2 (HME.out.mono ?_))⟩
        rintro e w4 ⟨rfl, q4, hw4⟩
        subst w4
        have HP : Hid (KeepsFrom w3.heap.size W1 (W1.drewN q4) ∧ KpH w.heap.size b w2.heap.size W1 (W1.drewN q4) ∧ FkM w (W1.drewN q4) b (b + 1) c) := Lib.hid
          ⟨keepsFrom_below (below_drewG _ (Below.refl _ _)), ⟨below_drewG _ (Below.refl _ _), rfl, rfl⟩, HM.out.keep (below_drewG _ (Below.refl _ _))⟩
        clear HME km
        gi_wp2
        exact HP.out
      case done =>
        intro D ys W1 hD hS m hdf
        have c10 := m.o1.cell (i := 0) (by omega)
        have c20 := m.o2.cell (i := 0) (by omega)
        have f1 := m.o1.frozen 0
        have f2 := m.o2.frozen 0
        have HZZ : Hid (w.heap.size ≠ w.heap.size + 1) := Lib.hid (by omega)
        have hmd : Mod (fun j => j = w.heap.size + 1 ∨ j = w.heap.size + 2) W1 ((W1.setCell ⟨w.heap.size + 1, 0, none⟩ (.int .i64 (-1))).setCell ⟨w.heap.size + 2, 0, none⟩ (.int .i64 0)) := ((show Mod (fun j => j = w.heap.size + 1 ∨ j = w.heap.size + 2) W1 W1 from Mod.refl _ W1).setCell (p := ⟨w.heap.size + 1, 0, none⟩) (.inl (.inl rfl)) _).setCell (p := ⟨w.heap.size + 2, 0, none⟩) (.inl (.inr rfl)) _
        have HB := Lib.hid (m.bel.trans (hmd.below m.bel.size (fun j _ h => by omega)))
        have r1 : Own ((W1.setCell ⟨w.heap.size + 1, 0, none⟩ (.int .i64 (-1))).setCell ⟨w.heap.size + 2, 0, none⟩ (.int .i64 0)) (w.heap.size + 1) 3 1 (fun _ => .int .i64 (-1)) := (m.o1.set1 _).other (p := ⟨w.heap.size + 2, 0, none⟩) (by show w.heap.size + 1 ≠ w.heap.size + 2; omega) _
        have r2 : Own ((W1.setCell ⟨w.heap.size + 1, 0, none⟩ (.int .i64 (-1))).setCell ⟨w.heap.size + 2, 0, none⟩ (.int .i64 0)) (w.heap.size + 2) 41 1 (fun _ => .int .i64 0) := (m.o2.other (p := ⟨w.heap.size + 1, 0, none⟩) (by show w.heap.size + 2 ≠ w.heap.size + 1; omega) _).set1 _
        have HMK : Hid (Marks (w.heap.size + 3) ((W1.setCell ⟨w.heap.size + 1, 0, none⟩ (.int .i64 (-1))).setCell ⟨w.heap.size + 2, 0, none⟩ (.int .i64 0)) [{ target := .collected D, args := #[] }]) := Lib.hid ⟨[D], rfl, by simp, fun D' hD' => by
          have e : D' = D := by simpa using hD'
          subst e
          have hdl := (Array.getElem?_eq_some_iff.1 hdf).1
          have hz := HZ3.out
          exact ⟨by omega, Nat.lt_of_lt_of_le hdl hmd.size, (hmd.block D' hdl (by omega)).trans hdf⟩⟩
        have HR1 := Lib.hid r1
        have HR2 := Lib.hid r2
        clear m hS hdf hmd r1 r2
        go_wp2_with fail
        refine leaves_marks (B := w.heap.size + 3) _ _ HMK.out (fun W3 hT => ?_)
        have t1 := HR1.out.takenH hT
        have t2 := HR2.out.takenH hT
        refine ⟨_, results_c2 (a := 4) (b := 5) (ta := 3) (tb := 41) (ba := w.heap.size + 1) (bb := w.heap.size + 2) (by kernel_rfl) rfl rfl (load_intH t1) (load_errno t2), rfl, HB.out.trans (taken_below1 hT (by omega))⟩
end Go.Proofs.YtbjmpfchapggfaaGreat
/-
phases.Neutral.
-/
namespace Go.Proofs.YtbjmpfchapggfaaGreat
open Go.RowKit
set_option linter.unusedVariables false
set_option linter.unusedSimpArgs false
def sqL (xs : List Int) : Nat → Int
  | 0 => 0
  | k + 1 => sqL xs k + fI xs k * fI xs k
theorem sq_bd {x : Int} (h : -1000 ≤ x ∧ x ≤ 1000) : 0 ≤ x * x ∧ x * x ≤ 1000000 := by
  rcases Int.le_total 0 x with h1 | h1
  · exact ⟨Int.mul_nonneg h1 h1, Int.mul_le_mul h.2 h.2 h1 (by omega)⟩
  · have e : x * x = (-x) * (-x) := (Int.neg_mul_neg x x).symm
    rw [e]
    have h2 : (-x) * (-x) ≤ 1000 * 1000 := Int.mul_le_mul (by omega) (by omega) (by omega) (by omega)
    exact ⟨Int.mul_nonneg (by omega) (by omega), by omega⟩
theorem sqL_bd {xs : List Int} {n : Nat} (h : ∀ i, i < n → -1000 ≤ fI xs i ∧ fI xs i ≤ 1000) : ∀ k : Nat, k ≤ n → 0 ≤ sqL xs k ∧ sqL xs k ≤ k * 1000000
  | 0, _ => by simp [sqL]
  | k + 1, hk => by
    have h1 := sqL_bd h k (by omega)
    have h2 := sq_bd (h k (by omega))
    unfold sqL
    omega
set_option maxRecDepth 100000 in
set_option maxHeartbeats 4000000 in
theorem phValid_ok (A : Option Addr) (n c : Nat) (xs : List Int) (w : World) (HX : Hid (Rd 1 encI w A xs)) (HN : Hid (xs.length = n)) (hn : n ≤ 1000) (HIN : Hid (∀ i, i < n → 0 ≤ fI xs i ∧ fI xs i ≤ 1000)) :
    Calls Tryz.prog 33 #[.slice A n c] w fun e w' => e = .returned (.bool true) ∧ w' = w := by
  go_enter Tryz.func33, Tryz.ntmps33
  go_wp2_with fail
  go_loopg [7] n (fun g1 v7 wr => ∃ k : Nat, v7 = .int .i64 k ∧ k ≤ n ∧ n - k ≤ g1 ∧ w = wr)
  case atStart => exact ⟨0, by go_num, by omega, by omega, rfl⟩
  case round =>
    obtain ⟨k, rfl, hk, hg1, rfl⟩ := hrel
    by_cases hlt : k < n
    · have hltz : (k : Int) < (n : Int) := by omega
      obtain ⟨b, off, hA, hb, hc⟩ := HX.out.int (k := k) (by rw [HN.out]; exact hlt)
      have hc' : w.cell? ⟨b, off + k, none⟩ = some (.int .i64 (fI xs k)) := hc
      obtain ⟨h1, h2⟩ := HIN.out k hlt
      subst hA
      clear hc
      generalize fI xs k = y at *
      have h3 : ¬ y < 0 := by omega
      have h4 : ¬ 1000 < y := by omega
      clear h1 h2
      go_wp2_with fail
      go_roundg (n - (k + 1))
      case measure => omega
      case rel => exact ⟨k + 1, by go_num, by omega, by omega, rfl⟩
    · have hltz : ¬ (k : Int) < (n : Int) := by omega
      go_wp2_with fail
      go_ret
      exact ⟨rfl, rfl⟩
set_option maxRecDepth 100000 in
set_option maxHeartbeats 4000000 in
theorem phSquares_ok (A : Option Addr) (n c : Nat) (xs : List Int) (w : World) (HX : Hid (Rd 1 encI w A xs)) (HN : Hid (xs.length = n)) (hn : n ≤ 1000) (HIN : Hid (∀ i, i < n → -1000 ≤ fI xs i ∧ fI xs i ≤ 1000)) :
    Calls Tryz.prog 34 #[.slice A n c] w fun e w' => e = .returned (.int .i64 (sqL xs n)) ∧ w' = w := by
  go_enter Tryz.func34, Tryz.ntmps34
  go_wp2_with fail
  go_loopg [3, 8] n (fun g1 v3 v8 wr => ∃ k : Nat, v8 = .int .i64 k ∧ k ≤ n ∧ n - k ≤ g1 ∧ v3 = .int .i64 (sqL xs k) ∧ w = wr)
  case atStart => exact ⟨0, by go_num, by omega, by omega, rfl, rfl⟩
  case round =>
    obtain ⟨k, rfl, hk, hg1, rfl, rfl⟩ := hrel
    by_cases hlt : k < n
    · have hltz : (k : Int) < (n : Int) := by omega
      obtain ⟨b, off, hA, hb, hc⟩ := HX.out.int (k := k) (by rw [HN.out]; exact hlt)
      have hc' : w.cell? ⟨b, off + k, none⟩ = some (.int .i64 (fI xs k)) := hc
      have h1 := sq_bd (HIN.out k hlt)
      have h2 := sqL_bd HIN.out k (by omega)
      have HSU : Hid (sqL xs (k + 1) = sqL xs k + fI xs k * fI xs k) := Lib.hid rfl
      subst hA
      clear hc
      generalize sqL xs k = z at *
      generalize fI xs k = y at *
      have w1 : IntKind.i64.wrap (y * y) = y * y := IntWalk.i64_in _ (by omega)
      have w2 : IntKind.i64.wrap (z + y * y) = z + y * y := IntWalk.i64_in _ (by omega)
      clear h1 h2
      go_wp2_with fail
      go_roundg (n - (k + 1))
      case measure => omega
      case rel => exact ⟨k + 1, by go_num, by omega, by omega, by rw [HSU.out], rfl⟩
    · have hltz : ¬ (k : Int) < (n : Int) := by omega
      have hkn : k = n := by omega
      subst hkn
      go_wp2_with fail
      go_ret
      exact ⟨rfl, rfl⟩
def neuOk (t : Int) (n : Nat) : Bool := decide (t ≤ 2 * (n : Int) * (n : Int))
theorem neuOk_up {t : Int} {m n : Nat} (h : m ≤ n) (hm : neuOk t m = true) : neuOk t n = true := by
  unfold neuOk at *
  simp only [decide_eq_true_eq] at *
  have : 2 * (m : Int) * (m : Int) ≤ 2 * (n : Int) * (n : Int) := Int.mul_le_mul (by omega) (by omega) (by omega) (by omega)
  omega
set_option maxRecDepth 100000 in
theorem phNeutral1_any (b : Nat) (t : Int) (n : Nat) (hn : n ≤ 1000) (w : World) (hb : w.cell? ⟨b, 0, none⟩ = some (.int .i64 t)) :
    Calls Tryz.prog 36 #[.int .i64 (n : Nat), .pointer (some ⟨b, 0, none⟩)] w fun e w' => e = .returned (.bool (neuOk t n)) ∧ ∃ q, w' = w.drewN q := by
  have h1 : 0 ≤ 2 * (n : Int) ∧ 2 * (n : Int) ≤ 2000 := by omega
  have h2 : 2 * (n : Int) * (n : Int) ≤ 2000 * 1000 := Int.mul_le_mul h1.2 (by omega) (by omega) (by omega)
  have h3 : 0 ≤ 2 * (n : Int) * (n : Int) := Int.mul_nonneg h1.1 (by omega)
  have w1 : IntKind.i64.wrap (2 * (n : Int)) = 2 * (n : Int) := IntWalk.i64_in _ (by omega)
  have w2 : IntKind.i64.wrap (2 * (n : Int) * (n : Int)) = 2 * (n : Int) * (n : Int) := IntWalk.i64_in _ (by omega)
  go_enter Tryz.func36, Tryz.ntmps36
  go_wp2_with fail
  try (go_quiet (fail); go_wp2_with fail)
  go_ret
  exact ⟨rfl, 0, rfl⟩
set_option maxRecDepth 100000 in
set_option maxHeartbeats 4000000 in
theorem phLeast_ok (b : Nat) (t : Int) (w : World) (hb : w.cell? ⟨b, 0, none⟩ = some (.int .i64 t)) :
    Calls Tryz.prog 35 #[.int .i64 0, .int .i64 1000, .func (.func 36) #[] #[.pointer (some ⟨b, 0, none⟩)]] w fun e w' => (∃ n : Nat, e = .returned (.int .i64 (n : Nat)) ∧ n ≤ 1000 ∧ ∀ m, m ≤ 1000 → neuOk t m = true → n ≤ m) ∧ ∃ q, w' = w.drewN q := by
  have HB := Lib.hid hb
  clear hb
  go_enter Tryz.func35, Tryz.ntmps35
  go_wp2_with fail
  go_loopg [0, 1] 1001 (fun g1 v0 v1 wr => ∃ lo hi : Nat, v0 = .int .i64 (lo : Nat) ∧ v1 = .int .i64 (hi : Nat) ∧ lo ≤ hi ∧ hi ≤ 1000 ∧ hi - lo < g1 ∧ Hid (∀ m, m ≤ 1000 → neuOk t m = true → lo ≤ m) ∧ Hid (∃ q, wr = w.drewN q))
  case atStart => exact ⟨0, 1000, by go_num, by go_num, by omega, by omega, by omega, Lib.hid (fun m _ _ => by omega), Lib.hid ⟨0, rfl⟩⟩
  case round =>
    obtain ⟨lo, hi, rfl, rfl, hl, hh, hg1, HI, HQ⟩ := hrel
    obtain ⟨q, hq⟩ := HQ.out
    subst hq
    by_cases hlt : lo < hi
    · have hltz : (lo : Int) < (hi : Int) := by omega
      obtain ⟨mid, hm, h1, h2⟩ : ∃ mid : Nat, (lo : Int) + ((hi : Int) - lo) / 2 = (mid : Int) ∧ lo ≤ mid ∧ mid < hi := ⟨lo + (hi - lo) / 2, by omega, by omega, by omega⟩
      have HC := Lib.hid (phNeutral1_any b t mid (by omega) (w.drewN q) HB.out)
      have HMD := Lib.hid hm
      clear hm
      go_wp2_with fail
      rw [HMD.out]
      refine HC.out.mono ?_
      rintro e w1 ⟨rfl, q2, hw⟩
      subst w1
      cases hok : neuOk t mid
      · have HI2 : Hid (∀ m, m ≤ 1000 → neuOk t m = true → mid + 1 ≤ m) := Lib.hid (fun m h3 h4 => by
          rcases Nat.lt_or_ge mid m with h | h
          · exact h
          · have := neuOk_up h h4
            rw [hok] at this
            cases this)
        clear hok
        go_wp2_with fail
        go_roundg (hi - (mid + 1) + 1)
        case measure => omega
        case rel => exact ⟨mid + 1, hi, val_int (by omega), rfl, by omega, by omega, by omega, HI2, Lib.hid ⟨_, rfl⟩⟩
      · clear hok
        go_wp2_with fail
        go_roundg (mid - lo + 1)
        case measure => omega
        case rel => exact ⟨lo, mid, rfl, rfl, by omega, by omega, by omega, HI, Lib.hid ⟨_, rfl⟩⟩
    · have hltz : ¬ (lo : Int) < (hi : Int) := by omega
      have HI2 := HI
      go_wp2_with fail
      go_ret
      exact ⟨⟨lo, rfl, by omega, HI2.out⟩, _, rfl⟩
/-- What Neutral does for three currents. -/
def NePost (w : World) (x y z : Int) (e : Ending) (w' : World) : Prop := ∃ n : Nat, e = .returned (.tuple #[.int .i64 (n : Nat), .int .i64 0]) ∧ (n ≤ 1000 ∧ ∀ m : Nat, m ≤ 1000 → x ≤ m → y ≤ m → z ≤ m → n ≤ m) ∧ Below w.heap.size w w'
set_option maxRecDepth 100000 in
set_option maxHeartbeats 4000000 in
theorem phNeutral_ok (x y z : Int) (hx : 0 ≤ x ∧ x ≤ 1000) (hy : 0 ≤ y ∧ y ≤ 1000) (hz : 0 ≤ z ∧ z ≤ 1000) (w : World) : Calls Tryz.prog 13 #[.int .i64 x, .int .i64 y, .int .i64 z] w fun e w' => NePost w x y z e w' := by
  obtain ⟨W1, hW1⟩ : ∃ W1, W1 = w.alloc (.cells #[.int .i64 x, .int .i64 y, .int .i64 z] 3) := ⟨_, rfl⟩
  have HV := Lib.hid (phValid_ok (some ⟨w.heap.size, 0, none⟩) 3 3 [x, y, z] W1 (Lib.hid (by rw [hW1]; exact rd_litI w _ [x, y, z] rfl)) (Lib.hid rfl) (by omega) (Lib.hid (fun i hi => by match i, hi with | 0, _ => exact hx | 1, _ => exact hy | 2, _ => exact hz)))
  obtain ⟨W2, hW2⟩ : ∃ W2, W2 = W1.alloc (.cells #[.int .i64 (x - y), .int .i64 (y - z), .int .i64 (z - x)] 3) := ⟨_, rfl⟩
  have HSQ := Lib.hid (phSquares_ok (some ⟨W1.heap.size, 0, none⟩) 3 3 [x - y, y - z, z - x] W2 (Lib.hid (by rw [hW2]; exact rd_litI W1 _ [x - y, y - z, z - x] rfl)) (Lib.hid rfl) (by omega) (Lib.hid (fun i hi => by
    match i, hi with
    | 0, _ => show -1000 ≤ x - y ∧ x - y ≤ 1000; omega
    | 1, _ => show -1000 ≤ y - z ∧ y - z ≤ 1000; omega
    | 2, _ => show -1000 ≤ z - x ∧ z - x ≤ 1000; omega)))
  have HT : Hid (sqL [x - y, y - z, z - x] 3 = twoN x y z) := Lib.hid (by
    show 0 + (x - y) * (x - y) + (y - z) * (y - z) + (z - x) * (z - x) = _
    unfold twoN
    omega)
  have HXB := Lib.hid (And.intro hx (And.intro hy hz))
  have w1 : IntKind.i64.wrap (x - y) = x - y := IntWalk.i64_in _ (by omega)
  have w2 : IntKind.i64.wrap (y - z) = y - z := IntWalk.i64_in _ (by omega)
  have w3 : IntKind.i64.wrap (z - x) = z - x := IntWalk.i64_in _ (by omega)
  have HB2 : Hid (Below w.heap.size w W2) := Lib.hid (by rw [hW2, hW1]; exact ((Below.refl _ w).alloc (Nat.le_refl _) _).alloc (by simp) _)
  have HW1 := Lib.hid hW1
  have HW2 := Lib.hid hW2
  clear hW1 hW2 hx hy hz
  go_enter Tryz.func13, Tryz.ntmps13
  go_wp2_with fail
  rw [← HW1.out]
  refine HV.out.mono ?_
  rintro e w' ⟨rfl, hw⟩
  subst w'
  go_wp2_with fail
  rw [← HW2.out]
  refine HSQ.out.mono ?_
  rintro e w' ⟨rfl, hw⟩
  subst w'
  rw [HT.out]
  have HTL : Hid (∀ m : Nat, m ≤ 1000 → x ≤ m → y ≤ m → z ≤ m → neuOk (twoN x y z) m = true) := Lib.hid (fun m hm h1 h2 h3 => by
    unfold neuOk
    rw [decide_eq_true_eq]
    obtain ⟨a1, a2, a3⟩ := HXB.out
    have h := twoN_le (a := x) (b := y) (c := z) (m := m) ⟨a1.1, h1⟩ ⟨a2.1, h2⟩ ⟨a3.1, h3⟩
    rw [Int.mul_assoc]
    exact h)
  generalize twoN x y z = t at *
  clear HSQ HV HT
  obtain ⟨W3, hW3⟩ : ∃ W3, W3 = W2.alloc (.cells #[.int .i64 t] 3) := ⟨_, rfl⟩
  have HL := Lib.hid (phLeast_ok W2.heap.size t W3 (by rw [hW3]; go_simp))
  have HB3 : Hid (Below w.heap.size w W3) := Lib.hid (by rw [hW3]; exact HB2.out.alloc HB2.out.size _)
  have HW3 := Lib.hid hW3
  clear hW3
  go_wp2_with fail
  rw [← HW3.out]
  refine HL.out.mono ?_
  rintro e w' ⟨⟨n, rfl, hn, hm⟩, q, hw⟩
  subst w'
  have HN := Lib.hid (And.intro hn hm)
  clear hn hm
  go_wp2_with fail
  refine bodyPost_ret (results_tmp2 rfl _ _ _) rfl ?_
  exact ⟨n, rfl, ⟨HN.out.1, fun m h0 h1 h2 h3 => HN.out.2 m h0 (HTL.out m h0 h1 h2 h3)⟩, below_drewG _ HB3.out⟩
end Go.Proofs.YtbjmpfchapggfaaGreat
/-
cable.Hot: a cable that does not get too warm.
-/
namespace Go.Proofs.YtbjmpfchapggfaaGreat
open Go.RowKit
set_option linter.unusedVariables false
set_option linter.unusedSimpArgs false
set_option maxRecDepth 100000 in
set_option maxHeartbeats 4000000 in
theorem cbUp_ok (n d : Int) (hd : 1 ≤ d ∧ d ≤ 1000000) (hn : -1000000000000 ≤ n ∧ n ≤ 1000000000000) (hu : -1000000000000 ≤ upV n d ∧ upV n d ≤ 1000000000000) (w : World) : Calls Tryz.prog 66 #[.int .i64 n, .int .i64 d] w fun e w' => e = .returned (.int .i64 (upV n d)) ∧ w' = w := by
  have hu1 : upV n d = if 0 < n.tmod d then n.tdiv d + 1 else n.tdiv d := rfl
  have hdz : ¬ d = 0 := by omega
  have hd1 : ¬ d = -1 := by omega
  by_cases h : 0 < n.tmod d
  · have e : upV n d = n.tdiv d + 1 := by rw [hu1, if_pos h]
    have w1 : IntKind.i64.wrap (n.tdiv d) = n.tdiv d := IntWalk.i64_in _ (by omega)
    have w2 : IntKind.i64.wrap (n.tdiv d + 1) = n.tdiv d + 1 := IntWalk.i64_in _ (by omega)
    have HE := Lib.hid e
    clear hu hu1 e
    go_enter Tryz.func66, Tryz.ntmps66
    go_wp2_with fail
    go_ret
    exact ⟨ret_int HE.out.symm, rfl⟩
  · have e : upV n d = n.tdiv d := by rw [hu1, if_neg h]
    have w1 : IntKind.i64.wrap (n.tdiv d) = n.tdiv d := IntWalk.i64_in _ (by omega)
    have HE := Lib.hid e
    clear hu hu1 e
    go_enter Tryz.func66, Tryz.ntmps66
    go_wp2_with fail
    go_ret
    exact ⟨ret_int HE.out.symm, rfl⟩
def wcF (c : GCon) (now : Int) (i : Nat) : Value := if i = 0 then .int .i64 c.amb else if i = 1 then .int .i64 c.most else if i = 2 then .int .i64 c.gain else if i = 3 then .int .i64 c.loss else if i = 4 then .int .i64 c.den else .int .i64 now
theorem wcF_set (c : GCon) (now x : Int) : ∀ i, i < 6 → (if i = 5 then Value.int .i64 x else wcF c now i) = wcF c x i := by
  intro i hi
  match i, hi with
  | 0, _ => rfl
  | 1, _ => rfl
  | 2, _ => rfl
  | 3, _ => rfl
  | 4, _ => rfl
  | 5, _ => rfl
theorem warmM_of {W : World} {b : Nat} {c : GCon} {now : Int} (h : Own W b 102 6 (wcF c now)) : WarmM W b c :=
  ⟨h.cell (i := 0) (by omega), h.cell (i := 1) (by omega), h.cell (i := 2) (by omega), h.cell (i := 3) (by omega), h.cell (i := 4) (by omega)⟩
/-- What tick does. -/
def TiPost (w : World) (b : Nat) (c : GCon) (e : Ending) (w' : World) : Prop := e = .returned (.tuple #[]) ∧ (∃ now', (c.amb ≤ now' ∧ now' ≤ c.most) ∧ Own w' b 102 6 (wcF c now')) ∧ Mod (fun j => j = b) w w'
set_option maxRecDepth 100000 in
set_option maxHeartbeats 8000000 in
theorem cbTick_ok (b : Nat) (a now : Int) (c : GCon) (hc : OkC c) (ha : 0 ≤ a ∧ a ≤ 1000) (hok : zC c = true ∨ c.gain * a * a ≤ roomC c) (hnow : c.amb ≤ now ∧ now ≤ c.most) (w : World) (HO : Hid (Own w b 102 6 (wcF c now))) :
    Calls Tryz.prog 44 #[.pointer (some ⟨b, 0, none⟩), .int .i64 a] w fun e w' => TiPost w b c e w' := by
  go_enter Tryz.func44, Tryz.ntmps44
  go_wp2_with fail
  refine (cbNone_any b c w (warmM_of HO.out)).mono ?_
  rintro e w1 ⟨rfl, hw⟩
  subst w1
  cases hzc : zC c
  case true =>
    have HN := Lib.hid hnow
    clear hok hnow
    go_wp2_with fail
    go_end0
    exact ⟨rfl, ⟨now, HN.out, HO.out⟩, Mod.refl _ _⟩
  case false =>
    rcases hc.cab with h | ⟨⟨a1, a2⟩, ⟨b1, b2⟩, ⟨g1, g2⟩, ⟨l1, l2⟩, hden, hlt⟩
    · rw [hzc] at h; cases h
    have hok' : c.gain * a * a ≤ roomC c := by
      rcases hok with h | h
      · rw [hzc] at h; cases h
      · exact h
    have hst := warm_step l1 hden.1 g1 ha.1 hok' hnow.1 hnow.2
    have hr := hc.room hzc
    have m1 : 0 ≤ c.gain * a := Int.mul_nonneg g1 ha.1
    have m2 : c.gain * a ≤ 1000 * 1000 := Int.mul_le_mul g2 ha.2 ha.1 (by omega)
    have m3 : 0 ≤ c.gain * a * a := Int.mul_nonneg m1 ha.1
    have hl0 : 0 ≤ min c.loss c.den ∧ min c.loss c.den ≤ 1000 := by omega
    have m4 : 0 ≤ min c.loss c.den * (now - c.amb) := Int.mul_nonneg hl0.1 (by omega)
    have m5 : min c.loss c.den * (now - c.amb) ≤ 1000 * 200000 := Int.mul_le_mul hl0.2 (by omega) (by omega) (by omega)
    have w1 : IntKind.i64.wrap (c.gain * a) = c.gain * a := IntWalk.i64_in _ (by omega)
    have w2 : IntKind.i64.wrap (c.gain * a * a) = c.gain * a * a := IntWalk.i64_in _ (by omega)
    have w3 : IntKind.i64.wrap (now - c.amb) = now - c.amb := IntWalk.i64_in _ (by omega)
    have w4 : IntKind.i64.wrap (min c.loss c.den * (now - c.amb)) = min c.loss c.den * (now - c.amb) := IntWalk.i64_in _ (by omega)
    have w5 : IntKind.i64.wrap (c.gain * a * a - min c.loss c.den * (now - c.amb)) = c.gain * a * a - min c.loss c.den * (now - c.amb) := IntWalk.i64_in _ (by omega)
    have w6 : IntKind.i64.wrap (now + upV (c.gain * a * a - min c.loss c.den * (now - c.amb)) c.den) = now + upV (c.gain * a * a - min c.loss c.den * (now - c.amb)) c.den := IntWalk.i64_in _ (by omega)
    have hN0 : -1000000000000 ≤ c.gain * a * a - min c.loss c.den * (now - c.amb) ∧ c.gain * a * a - min c.loss c.den * (now - c.amb) ≤ 1000000000000 := by omega
    have hUB : -1000000000000 ≤ upV (c.gain * a * a - min c.loss c.den * (now - c.amb)) c.den ∧ upV (c.gain * a * a - min c.loss c.den * (now - c.amb)) c.den ≤ 1000000000000 := by omega
    have HST := Lib.hid hst
    have HMO : Hid (∀ q, (w.drewN q).cell? ⟨b, 1, none⟩ = some (.int .i64 c.most)) := Lib.hid (fun q => HO.out.cell (i := 1) (by omega))
    have HFZ0 : Hid (∀ q, (w.drewN q).frozen? ⟨b, 5, none⟩ = false) := Lib.hid (fun q => (HO.out.drewN q).frozen 5)
    have k0 : w.cell? ⟨b, 0, none⟩ = some (.int .i64 c.amb) := HO.out.cell (i := 0) (by omega)
    have k2 : w.cell? ⟨b, 2, none⟩ = some (.int .i64 c.gain) := HO.out.cell (i := 2) (by omega)
    have k3 : w.cell? ⟨b, 3, none⟩ = some (.int .i64 c.loss) := HO.out.cell (i := 3) (by omega)
    have k4 : w.cell? ⟨b, 4, none⟩ = some (.int .i64 c.den) := HO.out.cell (i := 4) (by omega)
    have k5 : w.cell? ⟨b, 5, none⟩ = some (.int .i64 now) := HO.out.cell (i := 5) (by omega)
    clear hst hok hok' hr m1 m2 m3 m4 m5 hl0 hc hnow ha g1 g2 l1 l2 a1 a2 b1 b2 hlt hzc
    go_wp2_with fail
    refine region_z (S := fun w' => w'.cell? ⟨b, 0, none⟩ = some (.int .i64 c.amb) ∧ w'.cell? ⟨b, 2, none⟩ = some (.int .i64 c.gain) ∧ w'.cell? ⟨b, 3, none⟩ = some (.int .i64 c.loss) ∧ w'.cell? ⟨b, 4, none⟩ = some (.int .i64 c.den) ∧ w'.cell? ⟨b, 5, none⟩ = some (.int .i64 now)) [36] (by kernel_rfl) ⟨k0, k2, k3, k4, k5⟩ (fun hHeld => ?_)
    clear k0 k2 k3 k4 k5
    refine wpAnyZ_take (i := 0) (v := .pointer (some ⟨b, 0, none⟩)) [1, 2, 3, 33, 34, 35, 36] rfl (by kernel_rfl) (by kernel_rfl) (by kernel_rfl) (by kernel_rfl) (fun _ _ _ h => h) (Or.inl ⟨by kernel_rfl, fun w' hSw => ?_⟩) hHeld ?_
    · have s0 := hSw.1
      have s2 := hSw.2.1
      have s3 := hSw.2.2.1
      have s4 := hSw.2.2.2.1
      have s5 := hSw.2.2.2.2
      clear hHeld hSw
      go_simp
    simp only [Act.put, List.getElem_toArray, List.getElem_cons_zero, List.getElem_cons_succ, List.setIfInBounds_toArray, List.set_cons_zero, List.set_cons_succ]
    refine wpAnyZ_take (i := 1) (v := .pointer (some ⟨b, 0, none⟩)) [2, 3, 33, 36] rfl (by kernel_rfl) (by kernel_rfl) (by kernel_rfl) (by kernel_rfl) (fun _ _ _ h => h) (Or.inl ⟨by kernel_rfl, fun w' hSw => ?_⟩) hHeld ?_
    · have s0 := hSw.1
      have s2 := hSw.2.1
      have s3 := hSw.2.2.1
      have s4 := hSw.2.2.2.1
      have s5 := hSw.2.2.2.2
      clear hHeld hSw
      go_simp
    simp only [Act.put, List.getElem_toArray, List.getElem_cons_zero, List.getElem_cons_succ, List.setIfInBounds_toArray, List.set_cons_zero, List.set_cons_succ]
    refine wpAnyZ_take (i := 2) (v := .pointer (some ⟨b, 5, none⟩)) [3, 33, 36] rfl (by kernel_rfl) (by kernel_rfl) (by kernel_rfl) (by kernel_rfl) (fun _ _ _ h => h) (Or.inl ⟨by kernel_rfl, fun w' hSw => ?_⟩) hHeld ?_
    · have s0 := hSw.1
      have s2 := hSw.2.1
      have s3 := hSw.2.2.1
      have s4 := hSw.2.2.2.1
      have s5 := hSw.2.2.2.2
      clear hHeld hSw
      go_simp
    simp only [Act.put, List.getElem_toArray, List.getElem_cons_zero, List.getElem_cons_succ, List.setIfInBounds_toArray, List.set_cons_zero, List.set_cons_succ]
    refine wpAnyZ_take (i := 3) (v := .int .i64 (now)) [33, 36] rfl (by kernel_rfl) (by kernel_rfl) (by kernel_rfl) (by kernel_rfl) (fun _ _ _ h => h) (Or.inl ⟨by kernel_rfl, fun w' hSw => ?_⟩) hHeld ?_
    · have s0 := hSw.1
      have s2 := hSw.2.1
      have s3 := hSw.2.2.1
      have s4 := hSw.2.2.2.1
      have s5 := hSw.2.2.2.2
      clear hHeld hSw
      go_simp
    simp only [Act.put, List.getElem_toArray, List.getElem_cons_zero, List.getElem_cons_succ, List.setIfInBounds_toArray, List.set_cons_zero, List.set_cons_succ]
    refine wpAnyZ_take (i := 4) (v := .pointer (some ⟨b, 0, none⟩)) [5, 6, 7, 8, 10, 12, 26, 32, 33, 36] rfl (by kernel_rfl) (by kernel_rfl) (by kernel_rfl) (by kernel_rfl) (fun _ _ _ h => h) (Or.inl ⟨by kernel_rfl, fun w' hSw => ?_⟩) hHeld ?_
    · have s0 := hSw.1
      have s2 := hSw.2.1
      have s3 := hSw.2.2.1
      have s4 := hSw.2.2.2.1
      have s5 := hSw.2.2.2.2
      clear hHeld hSw
      go_simp
    simp only [Act.put, List.getElem_toArray, List.getElem_cons_zero, List.getElem_cons_succ, List.setIfInBounds_toArray, List.set_cons_zero, List.set_cons_succ]
    refine wpAnyZ_take (i := 5) (v := .pointer (some ⟨b, 0, none⟩)) [6, 7, 8, 10, 12, 26, 32, 33, 36] rfl (by kernel_rfl) (by kernel_rfl) (by kernel_rfl) (by kernel_rfl) (fun _ _ _ h => h) (Or.inl ⟨by kernel_rfl, fun w' hSw => ?_⟩) hHeld ?_
    · have s0 := hSw.1
      have s2 := hSw.2.1
      have s3 := hSw.2.2.1
      have s4 := hSw.2.2.2.1
      have s5 := hSw.2.2.2.2
      clear hHeld hSw
      go_simp
    simp only [Act.put, List.getElem_toArray, List.getElem_cons_zero, List.getElem_cons_succ, List.setIfInBounds_toArray, List.set_cons_zero, List.set_cons_succ]
    refine wpAnyZ_take (i := 6) (v := .pointer (some ⟨b, 0, none⟩)) [7, 8, 10, 12, 26, 32, 33, 36] rfl (by kernel_rfl) (by kernel_rfl) (by kernel_rfl) (by kernel_rfl) (fun _ _ _ h => h) (Or.inl ⟨by kernel_rfl, fun w' hSw => ?_⟩) hHeld ?_
    · have s0 := hSw.1
      have s2 := hSw.2.1
      have s3 := hSw.2.2.1
      have s4 := hSw.2.2.2.1
      have s5 := hSw.2.2.2.2
      clear hHeld hSw
      go_simp
    simp only [Act.put, List.getElem_toArray, List.getElem_cons_zero, List.getElem_cons_succ, List.setIfInBounds_toArray, List.set_cons_zero, List.set_cons_succ]
    refine wpAnyZ_take (i := 7) (v := .pointer (some ⟨b, 2, none⟩)) [8, 10, 12, 26, 32, 33, 36] rfl (by kernel_rfl) (by kernel_rfl) (by kernel_rfl) (by kernel_rfl) (fun _ _ _ h => h) (Or.inl ⟨by kernel_rfl, fun w' hSw => ?_⟩) hHeld ?_
    · have s0 := hSw.1
      have s2 := hSw.2.1
      have s3 := hSw.2.2.1
      have s4 := hSw.2.2.2.1
      have s5 := hSw.2.2.2.2
      clear hHeld hSw
      go_simp
    simp only [Act.put, List.getElem_toArray, List.getElem_cons_zero, List.getElem_cons_succ, List.setIfInBounds_toArray, List.set_cons_zero, List.set_cons_succ]
    refine wpAnyZ_take (i := 8) (v := .int .i64 (c.gain)) [10, 12, 26, 32, 33, 36] rfl (by kernel_rfl) (by kernel_rfl) (by kernel_rfl) (by kernel_rfl) (fun _ _ _ h => h) (Or.inl ⟨by kernel_rfl, fun w' hSw => ?_⟩) hHeld ?_
    · have s0 := hSw.1
      have s2 := hSw.2.1
      have s3 := hSw.2.2.1
      have s4 := hSw.2.2.2.1
      have s5 := hSw.2.2.2.2
      clear hHeld hSw
      go_simp
    simp only [Act.put, List.getElem_toArray, List.getElem_cons_zero, List.getElem_cons_succ, List.setIfInBounds_toArray, List.set_cons_zero, List.set_cons_succ]
    refine wpAnyZ_take (i := 9) (v := .int .i64 (a)) [10, 12, 26, 32, 33, 36] rfl (by kernel_rfl) (by kernel_rfl) (by kernel_rfl) (by kernel_rfl) (fun _ _ _ h => h) (Or.inl ⟨by kernel_rfl, fun w' hSw => ?_⟩) hHeld ?_
    · have s0 := hSw.1
      have s2 := hSw.2.1
      have s3 := hSw.2.2.1
      have s4 := hSw.2.2.2.1
      have s5 := hSw.2.2.2.2
      clear hHeld hSw
      go_simp
    simp only [Act.put, List.getElem_toArray, List.getElem_cons_zero, List.getElem_cons_succ, List.setIfInBounds_toArray, List.set_cons_zero, List.set_cons_succ]
    refine wpAnyZ_take (i := 10) (v := .int .i64 (c.gain * a)) [12, 26, 32, 33, 36] rfl (by kernel_rfl) (by kernel_rfl) (by kernel_rfl) (by kernel_rfl) (fun _ _ _ h => h) (Or.inl ⟨by kernel_rfl, fun w' hSw => ?_⟩) hHeld ?_
    · have s0 := hSw.1
      have s2 := hSw.2.1
      have s3 := hSw.2.2.1
      have s4 := hSw.2.2.2.1
      have s5 := hSw.2.2.2.2
      clear hHeld hSw
      go_simp
    simp only [Act.put, List.getElem_toArray, List.getElem_cons_zero, List.getElem_cons_succ, List.setIfInBounds_toArray, List.set_cons_zero, List.set_cons_succ]
    refine wpAnyZ_take (i := 11) (v := .int .i64 (a)) [12, 26, 32, 33, 36] rfl (by kernel_rfl) (by kernel_rfl) (by kernel_rfl) (by kernel_rfl) (fun _ _ _ h => h) (Or.inl ⟨by kernel_rfl, fun w' hSw => ?_⟩) hHeld ?_
    · have s0 := hSw.1
      have s2 := hSw.2.1
      have s3 := hSw.2.2.1
      have s4 := hSw.2.2.2.1
      have s5 := hSw.2.2.2.2
      clear hHeld hSw
      go_simp
    simp only [Act.put, List.getElem_toArray, List.getElem_cons_zero, List.getElem_cons_succ, List.setIfInBounds_toArray, List.set_cons_zero, List.set_cons_succ]
    refine wpAnyZ_take (i := 12) (v := .int .i64 (c.gain * a * a)) [26, 32, 33, 36] rfl (by kernel_rfl) (by kernel_rfl) (by kernel_rfl) (by kernel_rfl) (fun _ _ _ h => h) (Or.inl ⟨by kernel_rfl, fun w' hSw => ?_⟩) hHeld ?_
    · have s0 := hSw.1
      have s2 := hSw.2.1
      have s3 := hSw.2.2.1
      have s4 := hSw.2.2.2.1
      have s5 := hSw.2.2.2.2
      clear hHeld hSw
      go_simp
    simp only [Act.put, List.getElem_toArray, List.getElem_cons_zero, List.getElem_cons_succ, List.setIfInBounds_toArray, List.set_cons_zero, List.set_cons_succ]
    refine wpAnyZ_take (i := 13) (v := .pointer (some ⟨b, 0, none⟩)) [14, 25, 26, 32, 33, 36] rfl (by kernel_rfl) (by kernel_rfl) (by kernel_rfl) (by kernel_rfl) (fun _ _ _ h => h) (Or.inl ⟨by kernel_rfl, fun w' hSw => ?_⟩) hHeld ?_
    · have s0 := hSw.1
      have s2 := hSw.2.1
      have s3 := hSw.2.2.1
      have s4 := hSw.2.2.2.1
      have s5 := hSw.2.2.2.2
      clear hHeld hSw
      go_simp
    simp only [Act.put, List.getElem_toArray, List.getElem_cons_zero, List.getElem_cons_succ, List.setIfInBounds_toArray, List.set_cons_zero, List.set_cons_succ]
    refine wpAnyZ_take (i := 15) (v := .pointer (some ⟨b, 0, none⟩)) [16, 17, 18, 24, 25, 26, 32, 33, 36] rfl (by kernel_rfl) (by kernel_rfl) (by kernel_rfl) (by kernel_rfl) (fun _ _ _ h => h) (Or.inl ⟨by kernel_rfl, fun w' hSw => ?_⟩) hHeld ?_
    · have s0 := hSw.1
      have s2 := hSw.2.1
      have s3 := hSw.2.2.1
      have s4 := hSw.2.2.2.1
      have s5 := hSw.2.2.2.2
      clear hHeld hSw
      go_simp
    simp only [Act.put, List.getElem_toArray, List.getElem_cons_zero, List.getElem_cons_succ, List.setIfInBounds_toArray, List.set_cons_zero, List.set_cons_succ]
    refine wpAnyZ_take (i := 16) (v := .pointer (some ⟨b, 0, none⟩)) [17, 18, 24, 25, 26, 32, 33, 36] rfl (by kernel_rfl) (by kernel_rfl) (by kernel_rfl) (by kernel_rfl) (fun _ _ _ h => h) (Or.inl ⟨by kernel_rfl, fun w' hSw => ?_⟩) hHeld ?_
    · have s0 := hSw.1
      have s2 := hSw.2.1
      have s3 := hSw.2.2.1
      have s4 := hSw.2.2.2.1
      have s5 := hSw.2.2.2.2
      clear hHeld hSw
      go_simp
    simp only [Act.put, List.getElem_toArray, List.getElem_cons_zero, List.getElem_cons_succ, List.setIfInBounds_toArray, List.set_cons_zero, List.set_cons_succ]
    refine wpAnyZ_take (i := 17) (v := .pointer (some ⟨b, 5, none⟩)) [18, 24, 25, 26, 32, 33, 36] rfl (by kernel_rfl) (by kernel_rfl) (by kernel_rfl) (by kernel_rfl) (fun _ _ _ h => h) (Or.inl ⟨by kernel_rfl, fun w' hSw => ?_⟩) hHeld ?_
    · have s0 := hSw.1
      have s2 := hSw.2.1
      have s3 := hSw.2.2.1
      have s4 := hSw.2.2.2.1
      have s5 := hSw.2.2.2.2
      clear hHeld hSw
      go_simp
    simp only [Act.put, List.getElem_toArray, List.getElem_cons_zero, List.getElem_cons_succ, List.setIfInBounds_toArray, List.set_cons_zero, List.set_cons_succ]
    refine wpAnyZ_take (i := 18) (v := .int .i64 (now)) [24, 25, 26, 32, 33, 36] rfl (by kernel_rfl) (by kernel_rfl) (by kernel_rfl) (by kernel_rfl) (fun _ _ _ h => h) (Or.inl ⟨by kernel_rfl, fun w' hSw => ?_⟩) hHeld ?_
    · have s0 := hSw.1
      have s2 := hSw.2.1
      have s3 := hSw.2.2.1
      have s4 := hSw.2.2.2.1
      have s5 := hSw.2.2.2.2
      clear hHeld hSw
      go_simp
    simp only [Act.put, List.getElem_toArray, List.getElem_cons_zero, List.getElem_cons_succ, List.setIfInBounds_toArray, List.set_cons_zero, List.set_cons_succ]
    refine wpAnyZ_take (i := 19) (v := .pointer (some ⟨b, 0, none⟩)) [20, 21, 22, 23, 24, 25, 26, 32, 33, 36] rfl (by kernel_rfl) (by kernel_rfl) (by kernel_rfl) (by kernel_rfl) (fun _ _ _ h => h) (Or.inl ⟨by kernel_rfl, fun w' hSw => ?_⟩) hHeld ?_
    · have s0 := hSw.1
      have s2 := hSw.2.1
      have s3 := hSw.2.2.1
      have s4 := hSw.2.2.2.1
      have s5 := hSw.2.2.2.2
      clear hHeld hSw
      go_simp
    simp only [Act.put, List.getElem_toArray, List.getElem_cons_zero, List.getElem_cons_succ, List.setIfInBounds_toArray, List.set_cons_zero, List.set_cons_succ]
    refine wpAnyZ_take (i := 20) (v := .pointer (some ⟨b, 0, none⟩)) [21, 22, 23, 24, 25, 26, 32, 33, 36] rfl (by kernel_rfl) (by kernel_rfl) (by kernel_rfl) (by kernel_rfl) (fun _ _ _ h => h) (Or.inl ⟨by kernel_rfl, fun w' hSw => ?_⟩) hHeld ?_
    · have s0 := hSw.1
      have s2 := hSw.2.1
      have s3 := hSw.2.2.1
      have s4 := hSw.2.2.2.1
      have s5 := hSw.2.2.2.2
      clear hHeld hSw
      go_simp
    simp only [Act.put, List.getElem_toArray, List.getElem_cons_zero, List.getElem_cons_succ, List.setIfInBounds_toArray, List.set_cons_zero, List.set_cons_succ]
    refine wpAnyZ_take (i := 21) (v := .pointer (some ⟨b, 0, none⟩)) [22, 23, 24, 25, 26, 32, 33, 36] rfl (by kernel_rfl) (by kernel_rfl) (by kernel_rfl) (by kernel_rfl) (fun _ _ _ h => h) (Or.inl ⟨by kernel_rfl, fun w' hSw => ?_⟩) hHeld ?_
    · have s0 := hSw.1
      have s2 := hSw.2.1
      have s3 := hSw.2.2.1
      have s4 := hSw.2.2.2.1
      have s5 := hSw.2.2.2.2
      clear hHeld hSw
      go_simp
    simp only [Act.put, List.getElem_toArray, List.getElem_cons_zero, List.getElem_cons_succ, List.setIfInBounds_toArray, List.set_cons_zero, List.set_cons_succ]
    refine wpAnyZ_take (i := 22) (v := .pointer (some ⟨b, 0, none⟩)) [23, 24, 25, 26, 32, 33, 36] rfl (by kernel_rfl) (by kernel_rfl) (by kernel_rfl) (by kernel_rfl) (fun _ _ _ h => h) (Or.inl ⟨by kernel_rfl, fun w' hSw => ?_⟩) hHeld ?_
    · have s0 := hSw.1
      have s2 := hSw.2.1
      have s3 := hSw.2.2.1
      have s4 := hSw.2.2.2.1
      have s5 := hSw.2.2.2.2
      clear hHeld hSw
      go_simp
    simp only [Act.put, List.getElem_toArray, List.getElem_cons_zero, List.getElem_cons_succ, List.setIfInBounds_toArray, List.set_cons_zero, List.set_cons_succ]
    refine wpAnyZ_take (i := 23) (v := .int .i64 (c.amb)) [24, 25, 26, 32, 33, 36] rfl (by kernel_rfl) (by kernel_rfl) (by kernel_rfl) (by kernel_rfl) (fun _ _ _ h => h) (Or.inl ⟨by kernel_rfl, fun w' hSw => ?_⟩) hHeld ?_
    · have s0 := hSw.1
      have s2 := hSw.2.1
      have s3 := hSw.2.2.1
      have s4 := hSw.2.2.2.1
      have s5 := hSw.2.2.2.2
      clear hHeld hSw
      go_simp
    simp only [Act.put, List.getElem_toArray, List.getElem_cons_zero, List.getElem_cons_succ, List.setIfInBounds_toArray, List.set_cons_zero, List.set_cons_succ]
    refine wpAnyZ_take (i := 24) (v := .int .i64 (now - c.amb)) [25, 26, 32, 33, 36] rfl (by kernel_rfl) (by kernel_rfl) (by kernel_rfl) (by kernel_rfl) (fun _ _ _ h => h) (Or.inl ⟨by kernel_rfl, fun w' hSw => ?_⟩) hHeld ?_
    · have s0 := hSw.1
      have s2 := hSw.2.1
      have s3 := hSw.2.2.1
      have s4 := hSw.2.2.2.1
      have s5 := hSw.2.2.2.2
      clear hHeld hSw
      go_simp
    simp only [Act.put, List.getElem_toArray, List.getElem_cons_zero, List.getElem_cons_succ, List.setIfInBounds_toArray, List.set_cons_zero, List.set_cons_succ]
    refine wpAnyZ_take (i := 27) (v := .pointer (some ⟨b, 0, none⟩)) [28, 29, 30, 31, 32, 33, 36] rfl (by kernel_rfl) (by kernel_rfl) (by kernel_rfl) (by kernel_rfl) (fun _ _ _ h => h) (Or.inl ⟨by kernel_rfl, fun w' hSw => ?_⟩) hHeld ?_
    · have s0 := hSw.1
      have s2 := hSw.2.1
      have s3 := hSw.2.2.1
      have s4 := hSw.2.2.2.1
      have s5 := hSw.2.2.2.2
      clear hHeld hSw
      go_simp
    simp only [Act.put, List.getElem_toArray, List.getElem_cons_zero, List.getElem_cons_succ, List.setIfInBounds_toArray, List.set_cons_zero, List.set_cons_succ]
    refine wpAnyZ_take (i := 28) (v := .pointer (some ⟨b, 0, none⟩)) [29, 30, 31, 32, 33, 36] rfl (by kernel_rfl) (by kernel_rfl) (by kernel_rfl) (by kernel_rfl) (fun _ _ _ h => h) (Or.inl ⟨by kernel_rfl, fun w' hSw => ?_⟩) hHeld ?_
    · have s0 := hSw.1
      have s2 := hSw.2.1
      have s3 := hSw.2.2.1
      have s4 := hSw.2.2.2.1
      have s5 := hSw.2.2.2.2
      clear hHeld hSw
      go_simp
    simp only [Act.put, List.getElem_toArray, List.getElem_cons_zero, List.getElem_cons_succ, List.setIfInBounds_toArray, List.set_cons_zero, List.set_cons_succ]
    refine wpAnyZ_take (i := 29) (v := .pointer (some ⟨b, 0, none⟩)) [30, 31, 32, 33, 36] rfl (by kernel_rfl) (by kernel_rfl) (by kernel_rfl) (by kernel_rfl) (fun _ _ _ h => h) (Or.inl ⟨by kernel_rfl, fun w' hSw => ?_⟩) hHeld ?_
    · have s0 := hSw.1
      have s2 := hSw.2.1
      have s3 := hSw.2.2.1
      have s4 := hSw.2.2.2.1
      have s5 := hSw.2.2.2.2
      clear hHeld hSw
      go_simp
    simp only [Act.put, List.getElem_toArray, List.getElem_cons_zero, List.getElem_cons_succ, List.setIfInBounds_toArray, List.set_cons_zero, List.set_cons_succ]
    refine wpAnyZ_take (i := 30) (v := .pointer (some ⟨b, 4, none⟩)) [31, 32, 33, 36] rfl (by kernel_rfl) (by kernel_rfl) (by kernel_rfl) (by kernel_rfl) (fun _ _ _ h => h) (Or.inl ⟨by kernel_rfl, fun w' hSw => ?_⟩) hHeld ?_
    · have s0 := hSw.1
      have s2 := hSw.2.1
      have s3 := hSw.2.2.1
      have s4 := hSw.2.2.2.1
      have s5 := hSw.2.2.2.2
      clear hHeld hSw
      go_simp
    simp only [Act.put, List.getElem_toArray, List.getElem_cons_zero, List.getElem_cons_succ, List.setIfInBounds_toArray, List.set_cons_zero, List.set_cons_succ]
    refine wpAnyZ_take (i := 31) (v := .int .i64 (c.den)) [32, 33, 36] rfl (by kernel_rfl) (by kernel_rfl) (by kernel_rfl) (by kernel_rfl) (fun _ _ _ h => h) (Or.inl ⟨by kernel_rfl, fun w' hSw => ?_⟩) hHeld ?_
    · have s0 := hSw.1
      have s2 := hSw.2.1
      have s3 := hSw.2.2.1
      have s4 := hSw.2.2.2.1
      have s5 := hSw.2.2.2.2
      clear hHeld hSw
      go_simp
    simp only [Act.put, List.getElem_toArray, List.getElem_cons_zero, List.getElem_cons_succ, List.setIfInBounds_toArray, List.set_cons_zero, List.set_cons_succ]
    refine wpAnyZ_one (i := 14) (by kernel_rfl) rfl (fun K' hK => ?_)
    go_simp
    refine (cbLoss_any b c _ ⟨hHeld.1, HMO.out _, hHeld.2.1, hHeld.2.2.1, hHeld.2.2.2.1⟩).mono ?_
    rintro e w4 ⟨rfl, q4, hq4⟩
    subst w4
    refine hK.out _ _ ?_ (fun hHeld' => ?_)
    · exact hHeld
    clear hK K' hHeld
    have hHeld := hHeld'
    clear hHeld'
    try simp only [Act.put, List.getElem_toArray, List.getElem_cons_zero, List.getElem_cons_succ, List.setIfInBounds_toArray, List.set_cons_zero, List.set_cons_succ]
    refine wpAnyZ_take (i := 25) (v := .int .i64 (min c.loss c.den * (now - c.amb))) [26, 32, 33, 36] rfl (by kernel_rfl) (by kernel_rfl) (by kernel_rfl) (by kernel_rfl) (fun _ _ _ h => h) (Or.inl ⟨by kernel_rfl, fun w' hSw => ?_⟩) hHeld ?_
    · clear hHeld hSw
      go_simp
    simp only [Act.put, List.getElem_toArray, List.getElem_cons_zero, List.getElem_cons_succ, List.setIfInBounds_toArray, List.set_cons_zero, List.set_cons_succ]
    refine wpAnyZ_take (i := 26) (v := .int .i64 (c.gain * a * a - min c.loss c.den * (now - c.amb))) [32, 33, 36] rfl (by kernel_rfl) (by kernel_rfl) (by kernel_rfl) (by kernel_rfl) (fun _ _ _ h => h) (Or.inl ⟨by kernel_rfl, fun w' hSw => ?_⟩) hHeld ?_
    · clear hHeld hSw
      go_simp
    simp only [Act.put, List.getElem_toArray, List.getElem_cons_zero, List.getElem_cons_succ, List.setIfInBounds_toArray, List.set_cons_zero, List.set_cons_succ]
    refine wpAnyZ_one (i := 32) (by kernel_rfl) rfl (fun K' hK => ?_)
    go_simp
    refine (cbUp_ok _ _ hden hN0 hUB _).mono ?_
    rintro e w5 ⟨rfl, hw5⟩
    subst w5
    refine hK.out _ _ ?_ (fun hHeld' => ?_)
    · exact hHeld
    clear hK K' hHeld
    have hHeld := hHeld'
    clear hHeld'
    try simp only [Act.put, List.getElem_toArray, List.getElem_cons_zero, List.getElem_cons_succ, List.setIfInBounds_toArray, List.set_cons_zero, List.set_cons_succ]
    refine wpAnyZ_take (i := 33) (v := .int .i64 (now + upV (c.gain * a * a - min c.loss c.den * (now - c.amb)) c.den)) [36] rfl (by kernel_rfl) (by kernel_rfl) (by kernel_rfl) (by kernel_rfl) (fun _ _ _ h => h) (Or.inl ⟨by kernel_rfl, fun w' hSw => ?_⟩) hHeld ?_
    · clear hHeld hSw
      go_simp
    simp only [Act.put, List.getElem_toArray, List.getElem_cons_zero, List.getElem_cons_succ, List.setIfInBounds_toArray, List.set_cons_zero, List.set_cons_succ]
    refine wpAnyZ_take (i := 34) (v := .pointer (some ⟨b, 0, none⟩)) [35, 36] rfl (by kernel_rfl) (by kernel_rfl) (by kernel_rfl) (by kernel_rfl) (fun _ _ _ h => h) (Or.inl ⟨by kernel_rfl, fun w' hSw => ?_⟩) hHeld ?_
    · clear hHeld hSw
      go_simp
    simp only [Act.put, List.getElem_toArray, List.getElem_cons_zero, List.getElem_cons_succ, List.setIfInBounds_toArray, List.set_cons_zero, List.set_cons_succ]
    refine wpAnyZ_take (i := 35) (v := .pointer (some ⟨b, 5, none⟩)) [36] rfl (by kernel_rfl) (by kernel_rfl) (by kernel_rfl) (by kernel_rfl) (fun _ _ _ h => h) (Or.inl ⟨by kernel_rfl, fun w' hSw => ?_⟩) hHeld ?_
    · clear hHeld hSw
      go_simp
    simp only [Act.put, List.getElem_toArray, List.getElem_cons_zero, List.getElem_cons_succ, List.setIfInBounds_toArray, List.set_cons_zero, List.set_cons_succ]
    refine wpAnyZ_last (i := 36) (by kernel_rfl) rfl (by kernel_rfl) (fun K' hK => ?_)
    clear hHeld
    have k5 : w.cell? ⟨b, 5, none⟩ = some (.int .i64 now) := HO.out.cell (i := 5) (by omega)
    have hf := HFZ0.out (1 + q4)
    go_simp
    refine hK.out _ _ ?_
    clear hK K' hf k5
    try simp only [Act.put, List.getElem_toArray, List.getElem_cons_zero, List.getElem_cons_succ, List.setIfInBounds_toArray, List.set_cons_zero, List.set_cons_succ]
    refine wpAnyZ_done (by kernel_rfl) ?_ _
    go_end0
    exact ⟨rfl, ⟨_, HST.out, ((HO.out.drewN (1 + q4)).set 5 _).congr (wcF_set c now _)⟩, ((show Mod (fun j => j = b) w w from Mod.refl _ w).drewN (1 + q4)).setCell (p := ⟨b, 5, none⟩) (.inl rfl) _⟩
set_option maxRecDepth 100000 in
set_option maxHeartbeats 4000000 in
theorem cbHotM_no (b : Nat) (now : Int) (c : GCon) (hnow : now ≤ c.most) (w : World) (HO : Hid (Own w b 102 6 (wcF c now))) : Calls Tryz.prog 45 #[.pointer (some ⟨b, 0, none⟩)] w fun e w' => e = .returned (.bool false) ∧ ∃ q, w' = w.drewN q := by
  have k1 : w.cell? ⟨b, 1, none⟩ = some (.int .i64 c.most) := HO.out.cell (i := 1) (by omega)
  have k5 : w.cell? ⟨b, 5, none⟩ = some (.int .i64 now) := HO.out.cell (i := 5) (by omega)
  have hd : decide (c.most < now) = false := decide_eq_false (by omega)
  have hd2 : ¬ c.most < now := by omega
  have HC : Hid (∀ n, Calls Tryz.prog 65 #[.pointer (some ⟨b, 0, none⟩)] (w.drewN n) fun e w' => e = .returned (.bool (zC c)) ∧ w' = w.drewN n) := Lib.hid (fun n => cbNone_any b c _ (warmM_of (HO.out.drewN n)))
  go_enter Tryz.func45, Tryz.ntmps45
  cases hz : zC c
  · rw [hz] at HC
    clear hz
    go_wp2_with fail
    go_quiet (first | (go_at_call 65; exact Calls.quiet_of_same (HC.out _)))
    go_wp2_with fail
    go_ret
    exact ⟨rfl, _, rfl⟩
  · rw [hz] at HC
    clear hz
    go_wp2_with fail
    go_quiet (first | (go_at_call 65; exact Calls.quiet_of_same (HC.out _)))
    go_wp2_with fail
    go_ret
    exact ⟨rfl, _, rfl⟩
/-- The memory of the closure of Hot. -/
structure HotM (W : World) (b : Nat) (c : GCon) (now : Int) (T X H : Nat) (A : Option Addr) (n cA : Nat) (xs : List Int) : Prop where
  ow : Own W b 102 6 (wcF c now)
  kt : W.cell? ⟨T, 0, none⟩ = some (.func (.func 44) #[.pointer (some ⟨b, 0, none⟩)] #[])
  kx : W.cell? ⟨X, 0, none⟩ = some (.slice A n cA)
  kh : W.cell? ⟨H, 0, none⟩ = some (.func (.func 45) #[.pointer (some ⟨b, 0, none⟩)] #[])
  rx : Rd 1 encI W A xs
  ne : T ≠ b ∧ X ≠ b ∧ H ≠ b ∧ ∀ a, A = some a → a.block ≠ b
theorem HotM.mod {W W' : World} {b : Nat} {c : GCon} {now now' : Int} {T X H : Nat} {A : Option Addr} {n cA : Nat} {xs : List Int} (h : HotM W b c now T X H A n cA xs) (hm : Mod (fun j => j = b) W W') (ho : Own W' b 102 6 (wcF c now')) : HotM W' b c now' T X H A n cA xs :=
  ⟨ho, (hm.cell (p := ⟨T, 0, none⟩) (World.block_lt_of_cell? _ _ h.kt) h.ne.1).trans h.kt, (hm.cell (p := ⟨X, 0, none⟩) (World.block_lt_of_cell? _ _ h.kx) h.ne.2.1).trans h.kx, (hm.cell (p := ⟨H, 0, none⟩) (World.block_lt_of_cell? _ _ h.kh) h.ne.2.2.1).trans h.kh, h.rx.mod hm (fun a ha _ => h.ne.2.2.2 a ha), h.ne⟩
theorem HotM.drewN {W : World} {b : Nat} {c : GCon} {now : Int} {T X H : Nat} {A : Option Addr} {n cA : Nat} {xs : List Int} (h : HotM W b c now T X H A n cA xs) (q : Nat) : HotM (W.drewN q) b c now T X H A n cA xs :=
  ⟨h.ow.drewN q, h.kt, h.kx, h.kh, h.rx.drewN q, h.ne⟩
def H1Post (w : World) (b : Nat) (c : GCon) (T X H : Nat) (A : Option Addr) (n cA : Nat) (xs : List Int) (e : Ending) (w' : World) : Prop := e = .returned (.bool false) ∧ (∃ now', (c.amb ≤ now' ∧ now' ≤ c.most) ∧ HotM w' b c now' T X H A n cA xs) ∧ Mod (fun j => j = b) w w'
set_option maxRecDepth 100000 in
set_option maxHeartbeats 8000000 in
theorem cbHot1_ok (b T X H : Nat) (c : GCon) (hc : OkC c) (now : Int) (hnow : c.amb ≤ now ∧ now ≤ c.most) (A : Option Addr) (n cA : Nat) (xs : List Int) (hn : xs.length = n) (k : Nat) (hk : k < n) (hin : (0 ≤ fI xs k ∧ fI xs k ≤ 1000) ∧ (zC c = true ∨ c.gain * fI xs k * fI xs k ≤ roomC c)) (w : World) (HM : Hid (HotM w b c now T X H A n cA xs)) :
    Calls Tryz.prog 47 #[.int .i64 (k : Nat), .pointer (some ⟨T, 0, none⟩), .pointer (some ⟨X, 0, none⟩), .pointer (some ⟨H, 0, none⟩)] w fun e w' => H1Post w b c T X H A n cA xs e w' := by
  have hkz : (k : Int) < (n : Int) := by omega
  obtain ⟨bA, off, hA, hb, hcx⟩ := HM.out.rx.int (k := k) (by rw [hn]; exact hk)
  have hc' : w.cell? ⟨bA, off + k, none⟩ = some (.int .i64 (fI xs k)) := hcx
  have HT : Hid (Calls Tryz.prog 44 #[.pointer (some ⟨b, 0, none⟩), .int .i64 (fI xs k)] w.drew fun e w' => TiPost w.drew b c e w') := Lib.hid (cbTick_ok b (fI xs k) now c hc hin.1 hin.2 hnow w.drew (Lib.hid (HM.out.ow.drewN 1)))
  have kt := HM.out.kt
  have kx := HM.out.kx
  subst hA
  clear hcx hb hc hin
  generalize fI xs k = y at *
  go_enter Tryz.func47, Tryz.ntmps47
  go_wp2_with fail
  go_still_tail 5, (by kernel_rfl)
  change wpList _ _ _ _ _ w.drew
  go_wp2_with fail
  refine HT.out.mono ?_
  rintro e w2 ⟨rfl, ⟨now2, hb2, ho2⟩, hm2⟩
  have hm : Mod (fun j => j = b) w w2 := ((show Mod (fun j => j = b) w w from Mod.refl _ w).drewN 1).trans hm2
  have HM2 := Lib.hid (HM.out.mod hm ho2)
  have HH := Lib.hid (cbHotM_no b now2 c hb2.2 w2 (Lib.hid ho2))
  have HMD := Lib.hid hm
  have HB2 := Lib.hid hb2
  have kh := HM2.out.kh
  clear hm2 hm ho2 hb2 kt kx hc' HT
  go_wp2_with fail
  refine HH.out.mono ?_
  rintro e w3 ⟨rfl, q3, hw3⟩
  subst w3
  go_wp2_with fail
  go_ret
  exact ⟨rfl, ⟨now2, HB2.out, HM2.out.drewN q3⟩, HMD.out.drewN q3⟩
set_option maxRecDepth 100000 in
set_option maxHeartbeats 8000000 in
theorem cbFirst_ok (b T X H : Nat) (c : GCon) (HC : Hid (OkC c)) (now : Int) (hnow : c.amb ≤ now ∧ now ≤ c.most) (A : Option Addr) (n cA : Nat) (xs : List Int) (HN : Hid (xs.length = n)) (hn6 : n ≤ 1000000) (HIN : Hid (∀ i, i < n → (0 ≤ fI xs i ∧ fI xs i ≤ 1000) ∧ (zC c = true ∨ c.gain * fI xs i * fI xs i ≤ roomC c))) (w : World) (HM0 : Hid (HotM w b c now T X H A n cA xs)) :
    Calls Tryz.prog 46 #[.int .i64 (n : Nat), .func (.func 47) #[] #[.pointer (some ⟨T, 0, none⟩), .pointer (some ⟨X, 0, none⟩), .pointer (some ⟨H, 0, none⟩)]] w fun e w' => e = .returned (.int .i64 (-1)) ∧ Mod (fun j => j = b) w w' := by
  have HNW := Lib.hid hnow
  clear hnow
  go_enter Tryz.func46, Tryz.ntmps46
  go_wp2_with fail
  go_loopg [7] n (fun g1 v7 wr => ∃ k : Nat, v7 = .int .i64 k ∧ k ≤ n ∧ n - k ≤ g1 ∧ Hid (∃ now', (c.amb ≤ now' ∧ now' ≤ c.most) ∧ HotM wr b c now' T X H A n cA xs) ∧ Hid (Mod (fun j => j = b) w wr))
  case atStart => exact ⟨0, by go_num, by omega, by omega, Lib.hid ⟨now, HNW.out, HM0.out⟩, Lib.hid (Mod.refl _ _)⟩
  case round =>
    obtain ⟨k, rfl, hk, hg1, HH, HMD⟩ := hrel
    by_cases hlt : k < n
    · have hltz : (k : Int) < (n : Int) := by omega
      obtain ⟨now2, hb2, hm2⟩ := HH.out
      have HH1 := Lib.hid (cbHot1_ok b T X H c HC.out now2 hb2 A n cA xs HN.out k hlt (HIN.out k hlt) wr (Lib.hid hm2))
      clear hb2 hm2
      go_wp2_with fail
      refine HH1.out.mono ?_
      rintro e w2 ⟨rfl, hx, hm⟩
      have HX := Lib.hid hx
      have HM2 := Lib.hid (HMD.out.trans hm)
      clear hx hm HH1
      go_wp2_with fail
      go_roundg (n - (k + 1))
      case measure => omega
      case rel => exact ⟨k + 1, by go_num, by omega, by omega, HX, HM2⟩
    · have hltz : ¬ (k : Int) < (n : Int) := by omega
      go_wp2_with fail
      go_ret
      exact ⟨rfl, HMD.out⟩
theorem cbIsTemp_yes (n : Int) (h1 : 0 ≤ n) (h2 : n ≤ 1000000000) (w : World) : Calls Tryz.prog 42 #[.int .i64 n] w fun e w' => e = .returned (.bool true) ∧ w' = w := by
  go_enter Tryz.func42, Tryz.ntmps42
  go_wp2_with fail
  refine (cbInside_yes n 0 1000000000 h1 h2 w).mono ?_
  rintro e w' ⟨rfl, hw⟩
  subst w'
  go_wp2_with fail
  go_ret
  exact ⟨rfl, rfl⟩
theorem cbIsCur_yes (n : Int) (h1 : 0 ≤ n) (h2 : n ≤ 1000) (w : World) : Calls Tryz.prog 43 #[.int .i64 n] w fun e w' => e = .returned (.bool true) ∧ w' = w := by
  go_enter Tryz.func43, Tryz.ntmps43
  go_wp2_with fail
  refine (cbInside_yes n 0 1000 h1 h2 w).mono ?_
  rintro e w' ⟨rfl, hw⟩
  subst w'
  go_wp2_with fail
  go_ret
  exact ⟨rfl, rfl⟩
set_option maxRecDepth 100000 in
set_option maxHeartbeats 8000000 in
theorem cbHot_ok (c : GCon) (hc : OkC c) (A : Option Addr) (n cA : Nat) (xs : List Int) (w : World) (HX : Hid (Rd 1 encI w A xs)) (HN : Hid (xs.length = n)) (hn : n ≤ 10000) (HIN : Hid (∀ i, i < n → (0 ≤ fI xs i ∧ fI xs i ≤ 1000) ∧ (zC c = true ∨ c.gain * fI xs i * fI xs i ≤ roomC c))) (HAB : Hid (∀ a, A = some a → a.block < w.heap.size)) :
    Calls Tryz.prog 15 #[.agg #[.int .i64 c.amb, .int .i64 c.most, .int .i64 c.gain, .int .i64 c.loss, .int .i64 c.den], .int .i64 c.amb, .slice A n cA] w fun e w' => e = .returned (.tuple #[.int .i64 (-1), .int .i64 0]) ∧ Below w.heap.size w w' := by
  have hab : (0 ≤ c.amb ∧ c.amb ≤ 1000000000) ∧ c.amb ≤ c.most := by
    rcases hc.cab with h | h
    · unfold zC at h
      simp only [decide_eq_true_eq] at h
      omega
    · omega
  have HAM := Lib.hid hab
  have HOC := Lib.hid hc
  obtain ⟨W0, hW0⟩ : ∃ W0, W0 = (w.alloc (.cells #[.int .i64 c.amb, .int .i64 c.most, .int .i64 c.gain, .int .i64 c.loss, .int .i64 c.den] 48)).alloc (.cells #[.slice A n cA] 29) := ⟨_, rfl⟩
  have b0 : Below w.heap.size w W0 := by rw [hW0]; exact ((Below.refl _ w).alloc (Nat.le_refl _) _).alloc (by simp) _
  have q0 : W0.cell? ⟨w.heap.size, 0, none⟩ = some (.int .i64 c.amb) := by rw [hW0]; go_simp
  have q1 : W0.cell? ⟨w.heap.size, 1, none⟩ = some (.int .i64 c.most) := by rw [hW0]; go_simp
  have q2 : W0.cell? ⟨w.heap.size, 2, none⟩ = some (.int .i64 c.gain) := by rw [hW0]; go_simp
  have q3 : W0.cell? ⟨w.heap.size, 3, none⟩ = some (.int .i64 c.loss) := by rw [hW0]; go_simp
  have q4 : W0.cell? ⟨w.heap.size, 4, none⟩ = some (.int .i64 c.den) := by rw [hW0]; go_simp
  have q5 : W0.cell? ⟨w.heap.size + 1, 0, none⟩ = some (.slice A n cA) := by rw [hW0]; go_simp
  have HV := Lib.hid (cbValid_ok c hc W0)
  have HW0 := Lib.hid hW0
  clear hW0 hc hab
  go_enter Tryz.func15, Tryz.ntmps15
  go_wp2_with fail
  rw [← HW0.out]
  refine HV.out.mono ?_
  rintro e w1 ⟨rfl, hb1⟩
  have HBB := Lib.hid (below_then b0 hb1)
  have p0 := (hb1.cell (p := ⟨w.heap.size, 0, none⟩) (World.block_lt_of_cell? _ _ q0)).trans q0
  have p1 := (hb1.cell (p := ⟨w.heap.size, 1, none⟩) (World.block_lt_of_cell? _ _ q1)).trans q1
  have p2 := (hb1.cell (p := ⟨w.heap.size, 2, none⟩) (World.block_lt_of_cell? _ _ q2)).trans q2
  have p3 := (hb1.cell (p := ⟨w.heap.size, 3, none⟩) (World.block_lt_of_cell? _ _ q3)).trans q3
  have p4 := (hb1.cell (p := ⟨w.heap.size, 4, none⟩) (World.block_lt_of_cell? _ _ q4)).trans q4
  have p5 := (hb1.cell (p := ⟨w.heap.size + 1, 0, none⟩) (World.block_lt_of_cell? _ _ q5)).trans q5
  clear HV b0 hb1 q0 q1 q2 q3 q4 q5 HW0
  go_wp2_with fail
  refine (cbIsTemp_yes c.amb HAM.out.1.1 HAM.out.1.2 w1).mono ?_
  rintro e w2 ⟨rfl, hw2⟩
  subst w2
  go_wp2_with fail
  go_loopg [23] n (fun g1 v23 wr => ∃ k : Nat, v23 = .int .i64 k ∧ k ≤ n ∧ n - k ≤ g1 ∧ w1 = wr)
  case atStart => exact ⟨0, by go_num, by omega, by omega, rfl⟩
  case round =>
    obtain ⟨k, rfl, hk, hg1, rfl⟩ := hrel
    by_cases hlt : k < n
    · have hltz : (k : Int) < (n : Int) := by omega
      obtain ⟨bA, off, hA, hb, hcx⟩ := HX.out.int (k := k) (by rw [HN.out]; exact hlt)
      have hc' : w1.cell? ⟨bA, off + k, none⟩ = some (.int .i64 (fI xs k)) := (HBB.out.cell (p := ⟨bA, off + k, none⟩) hb).trans hcx
      obtain ⟨⟨h1, h2⟩, _⟩ := HIN.out k hlt
      have HCU := Lib.hid (cbIsCur_yes (fI xs k) h1 h2 w1)
      subst hA
      clear hcx h1 h2 hb
      generalize fI xs k = y at *
      go_wp2_with fail
      refine HCU.out.mono ?_
      rintro e w2 ⟨rfl, hw⟩
      subst w2
      go_wp2_with fail
      go_roundg (n - (k + 1))
      case measure => omega
      case rel => exact ⟨k + 1, by go_num, by omega, by omega, rfl⟩
    · have hltz : ¬ (k : Int) < (n : Int) := by omega
      clear hg1
      obtain ⟨w2, hw2⟩ : ∃ w2, w2 = ((w1.alloc (.cells #[.int .i64 c.amb, .int .i64 c.most, .int .i64 c.gain, .int .i64 c.loss, .int .i64 c.den, .int .i64 c.amb] 102)).alloc (.cells #[.func (.func 44) #[.pointer (some ⟨w1.heap.size, 0, none⟩)] #[]] 103)).alloc (.cells #[.func (.func 45) #[.pointer (some ⟨w1.heap.size, 0, none⟩)] #[]] 34) := ⟨_, rfl⟩
      have b2 : Below w1.heap.size w1 w2 := by rw [hw2]; exact (((Below.refl _ w1).alloc (Nat.le_refl _) _).alloc (by simp) _).alloc (by simp; omega) _
      have HM2 : Hid (HotM w2 w1.heap.size c c.amb (w1.heap.size + 1) (w.heap.size + 1) (w1.heap.size + 1 + 1) A n cA xs) := Lib.hid (by
        have l5 := World.block_lt_of_cell? _ _ p5
        dsimp only at l5
        refine ⟨?_, by rw [hw2]; go_simp, (b2.cell (p := ⟨w.heap.size + 1, 0, none⟩) l5).trans p5, by rw [hw2]; go_simp, HX.out.keep (below_then HBB.out b2), by omega, by omega, by omega, fun a ha => ?_⟩
        · rw [hw2]
          exact ((Own.newAt w1 102 _ w1.heap.size rfl rfl (fun i hi => by match i, hi with | 0, _ => rfl | 1, _ => rfl | 2, _ => rfl | 3, _ => rfl | 4, _ => rfl | 5, _ => rfl)).alloc _).alloc _
        · have := HAB.out a ha
          have := HBB.out.size
          omega)
      have p5' := HM2.out.kx
      have HF := Lib.hid (cbFirst_ok w1.heap.size (w1.heap.size + 1) (w.heap.size + 1) (w1.heap.size + 1 + 1) c HOC c.amb ⟨Int.le_refl _, HAM.out.2⟩ A n cA xs HN (by omega) HIN w2 HM2)
      have HB2 := Lib.hid (below_then HBB.out b2)
      have HZ := Lib.hid HBB.out.size
      have HW2 := Lib.hid hw2
      have hl5 : w.heap.size + 1 < w1.heap.size := World.block_lt_of_cell? _ _ p5
      have hl0 : w.heap.size < w1.heap.size := by omega
      clear hw2 b2 HM2 p5'
      go_wp2_with fail
      rw [← HW2.out]
      refine HF.out.mono ?_
      rintro e w3 ⟨rfl, hm⟩
      have HBF : Hid (Below w.heap.size w w3) := Lib.hid (HB2.out.trans (hm.below HB2.out.size (fun j _ h => by have := HZ.out; omega)))
      clear hm HF
      go_wp2_with fail
      refine bodyPost_ret (results_tmp2 rfl _ _ _) rfl ?_
      exact ⟨rfl, HBF.out⟩
end Go.Proofs.YtbjmpfchapggfaaGreat
/-
LimitsHarmless, walked.
-/
namespace Go.Proofs.YtbjmpfchapggfaaGreat
open Go.RowKit
set_option linter.unusedVariables false
set_option linter.unusedSimpArgs false
theorem Own.threeT (w : World) (t : TypeId) (x y z : Int) : Own (w.alloc (.cells #[.int .i64 x, .int .i64 y, .int .i64 z] t)) w.heap.size t 3 (v3F x y z) := Own.newAt w t _ w.heap.size rfl rfl (fun i hi => by match i, hi with | 0, _ => rfl | 1, _ => rfl | 2, _ => rfl)
theorem Own.set3T {w : World} {g : Nat} {t : TypeId} {a b c : Int} (h : Own w g t 3 (v3F a b c)) (x y z : Int) : Own (((w.setCell ⟨g, 0, none⟩ (.int .i64 x)).setCell ⟨g, 1, none⟩ (.int .i64 y)).setCell ⟨g, 2, none⟩ (.int .i64 z)) g t 3 (v3F x y z) :=
  (((h.set 0 _).set 1 _).set 2 _).congr (fun i hi => by match i, hi with | 0, _ => rfl | 1, _ => rfl | 2, _ => rfl)
/-- The load of conductor c on phase p in tick i. -/
noncomputable def ldF (s : GSite) (qs : List (List Int)) (c i p : Nat) : Int := loadS s (fI (qs[i]?.getD [])) s.chgs.length (c * 3 + p)
noncomputable def phK (s : GSite) (qs : List (List Int)) (c p k : Nat) : List Int := (List.range k).map (fun i => ldF s qs c i p)
noncomputable def anK (s : GSite) (qs : List (List Int)) (c : Nat) (ch : Nat → Nat) (k : Nat) : List Int := (List.range k).map (fun i => ldF s qs c i (ch i))
theorem phK_succ (s qs) (c p k : Nat) : phK s qs c p (k + 1) = phK s qs c p k ++ [ldF s qs c k p] := by unfold phK; rw [List.range_succ, List.map_append]; rfl
theorem anK_succ (s qs) (c : Nat) (ch : Nat → Nat) (k : Nat) : anK s qs c ch (k + 1) = anK s qs c ch k ++ [ldF s qs c k (ch k)] := by unfold anK; rw [List.range_succ, List.map_append]; rfl
theorem phK_len (s qs) (c p k : Nat) : (phK s qs c p k).length = k := by unfold phK; simp
theorem anK_len (s qs) (c : Nat) (ch : Nat → Nat) (k : Nat) : (anK s qs c ch k).length = k := by unfold anK; simp
theorem phK_at (s qs) (c p : Nat) {k i : Nat} (hi : i < k) : fI (phK s qs c p k) i = ldF s qs c i p := by unfold phK fI; rw [List.getElem?_map, List.getElem?_range hi]; rfl
theorem anK_at (s qs) (c : Nat) (ch : Nat → Nat) {k i : Nat} (hi : i < k) : fI (anK s qs c ch k) i = ldF s qs c i (ch i) := by unfold anK fI; rw [List.getElem?_map, List.getElem?_range hi]; rfl
/-- What is at most the limit of a conductor does no harm. -/
theorem harm_c {c : GCon} (hc : OkC c) {x : Int} (h0 : 0 ≤ x) (h : x ≤ limV c) : x ≤ c.limit ∧ x ≤ c.neutral ∧ x ≤ 1000 ∧ (c.rated = 0 ∨ x ≤ c.rated) ∧ (zC c = true ∨ c.gain * x * x ≤ roomC c) := by
  obtain ⟨h1, h2, h3, h4⟩ := limV_limit c
  have hl := hc.lim
  refine ⟨by omega, by omega, by omega, ?_, ?_⟩
  · by_cases e : c.rated = 0
    · exact .inl e
    · have := h4 e; exact .inr (by omega)
  · cases hz : zC c
    · right
      obtain ⟨r1, r2, g1, g2⟩ := hc.room hz
      have hp : permV c = (grN c.gain (roomC c) 1000 : Nat) := by unfold permV; rw [hz]; rfl
      have hk := grN_ok (gain := c.gain) r1 1000
      have hd := okAm_down g1 (m := x.toNat) (n := grN c.gain (roomC c) 1000) (by omega) hk
      unfold okAm at hd
      simp only [decide_eq_true_eq] at hd
      rw [show ((x.toNat : Nat) : Int) = x by omega] at hd
      exact hd
    · exact .inl rfl
theorem ldF_bd {s : GSite} {qs : List (List Int)} {i : Nat} {q : List Int} (hq : qs[i]? = some q) (hb : loadB s q = true) (hv : vioO s q = none) {c p : Nat} (hc : c < s.cons.length) (hp : p < 3) : 0 ≤ ldF s qs c i p ∧ ldF s qs c i p ≤ limAt s c := by
  unfold ldF
  rw [hq]
  refine ⟨(loadS_bd (fun i _ => (cur_bd hb).2 i) _).1, chk_none hb hv hc hp⟩
theorem ownL_ne {W : World} {base L n : Nat} {v : Value} {xs : List Int} {t : TypeId} {f : Nat → Value} (h : OwnL W base v xs) (ho : Own W L t n f) (ht : t ≠ 3) : v.ownBlock ≠ some L := by
  intro e
  rcases h.2 with ⟨h1, _⟩ | ⟨g, cap, cur, hv, _, hg, _⟩
  · rw [h1] at e; cases e
  · rw [hv] at e
    injection e with e
    dsimp only at e
    subst e
    obtain ⟨cs, hb, _⟩ := ho
    rw [hg] at hb
    injection hb with hb
    injection hb with _ h2 _
    exact ht h2.symm
theorem own_ne {W : World} {L Z n m : Nat} {t u : TypeId} {f g : Nat → Value} (h : Own W L t n f) (k : Own W Z u m g) (ht : t ≠ u) : L ≠ Z := by
  rintro rfl
  obtain ⟨cs, h1, _⟩ := h
  obtain ⟨ds, h2, _⟩ := k
  rw [h1] at h2
  injection h2 with h2
  injection h2 with _ h3 _
  exact ht h3
def conF (g : GCon) (i : Nat) : Value := ((encCon g)[i]?).getD undef
theorem conF_new (W : World) (g : GCon) : Own (W.alloc (.cells #[.string g.name, .int .i64 g.up, .int .i64 g.limit, .int .i64 g.neutral, .int .i64 g.rated, .int .i64 g.heat, .int .i64 g.amb, .int .i64 g.most, .int .i64 g.gain, .int .i64 g.loss, .int .i64 g.den] 50)) W.heap.size 50 11 (conF g) :=
  Own.newAt W 50 _ W.heap.size rfl rfl (fun i hi => by
    match i, hi with
    | 0, _ => rfl
    | 1, _ => rfl
    | 2, _ => rfl
    | 3, _ => rfl
    | 4, _ => rfl
    | 5, _ => rfl
    | 6, _ => rfl
    | 7, _ => rfl
    | 8, _ => rfl
    | 9, _ => rfl
    | 10, _ => rfl)
def chF (nB : Nat) (bs : List Int) (i : Nat) : Nat := (if i < nB then (fI bs i).toNat else i) % 3
noncomputable def midL (s : GSite) (qs : List (List Int)) (c i p q : Nat) : List Int := if q < p then phK s qs c q (i + 1) else phK s qs c q i
end Go.Proofs.YtbjmpfchapggfaaGreat
