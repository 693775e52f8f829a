/-
fuse.Melts: a fuse that does not melt.
-/
import Derived.Test.YtbalhbpaholakaaCHarmMath
import Derived.Test.YtbalhbpaholakaaCLimF0
import Derived.Test.YtbalhbpaholakaaCLimI0
import Derived.Test.YtbalhbpaholakaaGBase
import Derived.Laws.EntriesVeiled
namespace Go.Proofs.Ytbalhbpaholakaa
open Go.RowKit Go.Shelf
set_option linter.unusedVariables false
set_option linter.unusedSimpArgs false
theorem setCell_same {w : World} {b i : Nat} {v : Value} {cs : Array Value} {t : TypeId} {fr : Nat × Nat} (h : w.heap[b]? = some (.cells cs t fr)) (hc : cs[i]? = some v) : w.setCell ⟨b, i, none⟩ v = w := by
  obtain ⟨heap, tape, drawn, os, output⟩ := w
  unfold World.setCell
  dsimp only at h ⊢
  congr 1
  apply Array.ext_getElem?
  intro k
  rw [Array.getElem?_modify]
  by_cases e : b = k
  · subst e
    rw [if_pos rfl, h]
    show some (Obj.cells (if (none : Option _).isSome = true then cs else cs.setIfInBounds i v) t fr) = _
    rw [if_neg (by simp)]
    congr 2
    apply Array.ext_getElem?
    intro j
    rw [Array.getElem?_setIfInBounds]
    by_cases e2 : i = j
    · subst e2
      rw [if_pos rfl]
      have := (Array.getElem?_eq_some_iff.1 hc).1
      rw [if_pos this, hc]
    · rw [if_neg e2]
  · rw [if_neg e]
theorem Own.set_same {w : World} {g : Nat} {t : TypeId} {n : Nat} {f : Nat → Value} (h : Own w g t n f) {i : Nat} (hi : i < n) {v : Value} (hv : f i = v) : w.setCell ⟨g, i, none⟩ v = w := by
  obtain ⟨cs, hb, hs, hc⟩ := h
  exact setCell_same hb (by rw [hc i hi, hv])
theorem grown_noneH {A B : World} (h : Below A.heap.size A B) : A.grownBy B none := ⟨h.os, h.tape, h.output, h.size, fun i hi _ => h.block i hi⟩
theorem eq_fuse (a m : Int) (W : World) : (Op.equalIn 10000 51 (.agg #[.int .i64 a, .int .i64 m]) (.agg #[.int .i64 0, .int .i64 0])).run Try.prog W = .ok (decide (a = 0 ∧ m = 0)) W := by
  go_simp
  by_cases h0 : a = 0 <;> by_cases h1 : m = 0 <;> simp [h0, h1]
set_option maxRecDepth 100000 in
theorem fuBounded_yes (n a b : Int) (h1 : a ≤ n) (h2 : n ≤ b) (w : World) : Calls Try.prog 115 #[.int .i64 n, .int .i64 a, .int .i64 b] w fun e w' => e = .returned (.int .i64 n) ∧ w' = w := by
  go_enter Try.func115, Try.ntmps115
  go_wp2
  all_goals
    go_ret
    exact ⟨ret_int (by omega), rfl⟩
set_option maxRecDepth 100000 in
theorem fuInside_yes (n a b : Int) (h1 : a ≤ n) (h2 : n ≤ b) (w : World) : Calls Try.prog 88 #[.int .i64 n, .int .i64 a, .int .i64 b] w fun e w' => e = .returned (.bool true) ∧ w' = w := by
  go_enter Try.func88, Try.ntmps88
  go_wp2_with fail
  refine (fuBounded_yes n a b h1 h2 w).mono ?_
  rintro e w' ⟨rfl, hw⟩
  subst w'
  go_wp2_with fail
  go_ret
  exact ⟨rfl, rfl⟩
set_option maxRecDepth 100000 in
theorem fuIsCur_yes (n : Int) (h1 : 0 ≤ n) (h2 : n ≤ 1000) (w : World) : Calls Try.prog 61 #[.int .i64 n] w fun e w' => e = .returned (.bool true) ∧ w' = w := by
  go_enter Try.func61, Try.ntmps61
  go_wp2_with fail
  refine (fuInside_yes n 0 1000 h1 h2 w).mono ?_
  rintro e w' ⟨rfl, hw⟩
  subst w'
  go_wp2_with fail
  go_ret
  exact ⟨rfl, rfl⟩
set_option maxRecDepth 100000 in
set_option maxHeartbeats 4000000 in
theorem fuValid_ok (c : GCon) (hc : OkC c) (w : World) : Calls Try.prog 60 #[.agg #[.int .i64 c.rated, .int .i64 c.heat]] w fun e w' => e = .returned (.bool true) ∧ Below w.heap.size w w' := by
  have HB : Hid (Below w.heap.size w (w.alloc (.cells #[.int .i64 c.rated, .int .i64 c.heat] 51))) := Lib.hid ((Below.refl _ w).alloc (Nat.le_refl _) _)
  have hq0 := fun W => eq_fuse c.rated c.heat W
  go_enter Try.func60, Try.ntmps60
  rcases hc.fuse with ⟨h1, h2⟩ | ⟨⟨h1, h2⟩, h3, h4⟩
  · have hd : decide (c.rated = 0 ∧ c.heat = 0) = true := decide_eq_true ⟨h1, h2⟩
    rw [hd] at hq0
    clear hd h1 h2
    go_wp2_with fail
    go_ret
    exact ⟨rfl, HB.out⟩
  · have hd : decide (c.rated = 0 ∧ c.heat = 0) = false := decide_eq_false (by omega)
    rw [hd] at hq0
    clear hd
    go_wp2_with fail
    refine (fuInside_yes _ _ _ h1 h2 _).mono ?_
    rintro e w1 ⟨rfl, hw⟩
    subst w1
    go_wp2_with fail
    refine (fuInside_yes _ _ _ h3 (by omega) _).mono ?_
    rintro e w1 ⟨rfl, hw⟩
    subst w1
    go_wp2_with fail
    go_ret
    exact ⟨rfl, HB.out⟩
/-- A fuse with its heat, in memory: the heat is 0. -/
def wfF (c : GCon) (i : Nat) : Value := if i = 0 then .int .i64 c.rated else if i = 1 then .int .i64 c.heat else .int .i64 0
set_option maxRecDepth 100000 in
theorem fuNone_any (b : Nat) (x : Int) (w : World) (k0 : w.cell? ⟨b, 0, none⟩ = some (.int .i64 x)) : Calls Try.prog 116 #[.pointer (some ⟨b, 0, none⟩)] w fun e w' => e = .returned (.bool (x == 0)) ∧ w' = w := by
  go_enter Try.func116, Try.ntmps116
  go_wp2
  go_ret
  exact ⟨rfl, rfl⟩
set_option maxRecDepth 100000 in
theorem fuGain_ok (b : Nat) (a : Int) (c : GCon) (hc : 1 ≤ c.rated ∧ c.rated ≤ 1000) (ha : 0 ≤ a ∧ a ≤ 1000) (w : World) (k0 : w.cell? ⟨b, 0, none⟩ = some (.int .i64 c.rated)) : Calls Try.prog 117 #[.pointer (some ⟨b, 0, none⟩), .int .i64 a] w fun e w' => e = .returned (.int .i64 (a * a - c.rated * c.rated)) ∧ ∃ q, w' = w.drewN q := by
  have h1 : 0 ≤ a * a ∧ a * a ≤ 1000 * 1000 := ⟨Int.mul_nonneg ha.1 ha.1, Int.mul_le_mul ha.2 ha.2 ha.1 (by omega)⟩
  have h2 : 0 ≤ c.rated * c.rated ∧ c.rated * c.rated ≤ 1000 * 1000 := ⟨Int.mul_nonneg (by omega) (by omega), Int.mul_le_mul hc.2 hc.2 (by omega) (by omega)⟩
  have w1 : IntKind.i64.wrap (a * a) = a * a := IntWalk.i64_in _ (by omega)
  have w2 : IntKind.i64.wrap (c.rated * c.rated) = c.rated * c.rated := IntWalk.i64_in _ (by omega)
  have w3 : IntKind.i64.wrap (a * a - c.rated * c.rated) = a * a - c.rated * c.rated := IntWalk.i64_in _ (by omega)
  clear h1 h2
  go_enter Try.func117, Try.ntmps117
  go_wp2_with fail
  go_quiet (fail)
  go_wp2_with fail
  go_ret
  exact ⟨rfl, _, rfl⟩
set_option maxRecDepth 100000 in
theorem fuMelted_no (b : Nat) (c : GCon) (hc : 0 ≤ c.heat) (w : World) (k1 : w.cell? ⟨b, 1, none⟩ = some (.int .i64 c.heat)) (k2 : w.cell? ⟨b, 2, none⟩ = some (.int .i64 0)) : Calls Try.prog 63 #[.pointer (some ⟨b, 0, none⟩)] w fun e w' => e = .returned (.bool false) ∧ ∃ q, w' = w.drewN q := by
  have hd : decide (c.heat < 0) = false := decide_eq_false (by omega)
  go_enter Try.func63, Try.ntmps63
  go_wp2_with fail
  go_quiet (fail)
  go_wp2_with fail
  go_ret
  exact ⟨rfl, _, rfl⟩
set_option maxRecDepth 100000 in
set_option maxHeartbeats 4000000 in
theorem fuTick_ok (b : Nat) (a : Int) (c : GCon) (hr : c.rated = 0 ∨ (1 ≤ c.rated ∧ c.rated ≤ 1000)) (ha : 0 ≤ a ∧ a ≤ 1000) (hm : c.rated = 0 ∨ a ≤ c.rated) (w : World) (HO : Hid (Own w b 112 3 (wfF c))) : Calls Try.prog 90 #[.pointer (some ⟨b, 0, none⟩), .int .i64 a] w fun e w' => e = .returned (.tuple #[]) ∧ ∃ q, w' = w.drewN q := by
  have k0 : w.cell? ⟨b, 0, none⟩ = some (.int .i64 c.rated) := HO.out.cell (i := 0) (by omega)
  have k1 : w.cell? ⟨b, 1, none⟩ = some (.int .i64 c.heat) := HO.out.cell (i := 1) (by omega)
  have k2 : w.cell? ⟨b, 2, none⟩ = some (.int .i64 0) := HO.out.cell (i := 2) (by omega)
  go_enter Try.func90, Try.ntmps90
  go_wp2_with fail
  refine (fuNone_any b c.rated w k0).mono ?_
  rintro e w1 ⟨rfl, hw⟩
  subst w1
  rcases hr with h0 | hc
  · have hb : (c.rated == 0) = true := by simp [h0]
    clear h0 hm
    go_wp2_with fail
    go_end0
    exact ⟨rfl, 0, rfl⟩
  · have hb : (c.rated == 0) = false := by simp; omega
    have hle : a ≤ c.rated := by omega
    have h1 : 0 ≤ a * a ∧ a * a ≤ 1000 * 1000 := ⟨Int.mul_nonneg ha.1 ha.1, Int.mul_le_mul ha.2 ha.2 ha.1 (by omega)⟩
    have h2 : a * a ≤ c.rated * c.rated := Int.mul_le_mul hle hle ha.1 (by omega)
    have h3 : c.rated * c.rated ≤ 1000 * 1000 := Int.mul_le_mul hc.2 hc.2 (by omega) (by omega)
    have hws : IntKind.i64.wrap (a * a - c.rated * c.rated) = a * a - c.rated * c.rated := IntWalk.i64_in _ (by omega)
    have hng : ¬ 0 < a * a - c.rated * c.rated := by omega
    have HFZ0 : Hid (∀ q, (w.drewN q).frozen? ⟨b, 2, none⟩ = false) := Lib.hid (fun q => (HO.out.drewN q).frozen 2)
    have HSS0 : Hid (∀ q, (w.drewN q).setCell ⟨b, 2, none⟩ (.int .i64 0) = w.drewN q) := Lib.hid (fun q => (HO.out.drewN q).set_same (i := 2) (by omega) rfl)
    clear h1 h2 h3 hm
    go_wp2_with fail
    refine region_z (S := fun w' => w'.cell? ⟨b, 0, none⟩ = some (.int .i64 c.rated) ∧ w'.cell? ⟨b, 1, none⟩ = some (.int .i64 c.heat) ∧ w'.cell? ⟨b, 2, none⟩ = some (.int .i64 0)) [12] (by kernel_rfl) ⟨k0, k1, k2⟩ (fun hHeld => ?_)
    clear k0 k1 k2
    refine wpAnyZ_take (i := 0) (v := .pointer (some ⟨b, 0, none⟩)) [10, 11, 12] rfl (by kernel_rfl) (by kernel_rfl) (by kernel_rfl) (by kernel_rfl) (fun _ _ _ h => h) (Or.inl ⟨by kernel_rfl, fun w' hSw => ?_⟩) hHeld ?_
    · have k0 := hSw.1
      have k1 := hSw.2.1
      have k2 := hSw.2.2
      clear hHeld hSw
      go_simp
    simp only [Act.put, List.getElem_toArray, List.getElem_cons_zero, List.getElem_cons_succ, List.setIfInBounds_toArray, List.set_cons_zero, List.set_cons_succ]
    refine wpAnyZ_take (i := 1) (v := .pointer (some ⟨b, 0, none⟩)) [2, 3, 4, 8, 9, 12] rfl (by kernel_rfl) (by kernel_rfl) (by kernel_rfl) (by kernel_rfl) (fun _ _ _ h => h) (Or.inl ⟨by kernel_rfl, fun w' hSw => ?_⟩) hHeld ?_
    · have k0 := hSw.1
      have k1 := hSw.2.1
      have k2 := hSw.2.2
      clear hHeld hSw
      go_simp
    simp only [Act.put, List.getElem_toArray, List.getElem_cons_zero, List.getElem_cons_succ, List.setIfInBounds_toArray, List.set_cons_zero, List.set_cons_succ]
    refine wpAnyZ_take (i := 2) (v := .pointer (some ⟨b, 0, none⟩)) [3, 4, 8, 9, 12] rfl (by kernel_rfl) (by kernel_rfl) (by kernel_rfl) (by kernel_rfl) (fun _ _ _ h => h) (Or.inl ⟨by kernel_rfl, fun w' hSw => ?_⟩) hHeld ?_
    · have k0 := hSw.1
      have k1 := hSw.2.1
      have k2 := hSw.2.2
      clear hHeld hSw
      go_simp
    simp only [Act.put, List.getElem_toArray, List.getElem_cons_zero, List.getElem_cons_succ, List.setIfInBounds_toArray, List.set_cons_zero, List.set_cons_succ]
    refine wpAnyZ_take (i := 3) (v := .pointer (some ⟨b, 2, none⟩)) [4, 8, 9, 12] rfl (by kernel_rfl) (by kernel_rfl) (by kernel_rfl) (by kernel_rfl) (fun _ _ _ h => h) (Or.inl ⟨by kernel_rfl, fun w' hSw => ?_⟩) hHeld ?_
    · have k0 := hSw.1
      have k1 := hSw.2.1
      have k2 := hSw.2.2
      clear hHeld hSw
      go_simp
    simp only [Act.put, List.getElem_toArray, List.getElem_cons_zero, List.getElem_cons_succ, List.setIfInBounds_toArray, List.set_cons_zero, List.set_cons_succ]
    refine wpAnyZ_take (i := 4) (v := .int .i64 0) [8, 9, 12] rfl (by kernel_rfl) (by kernel_rfl) (by kernel_rfl) (by kernel_rfl) (fun _ _ _ h => h) (Or.inl ⟨by kernel_rfl, fun w' hSw => ?_⟩) hHeld ?_
    · have k0 := hSw.1
      have k1 := hSw.2.1
      have k2 := hSw.2.2
      clear hHeld hSw
      go_simp
    simp only [Act.put, List.getElem_toArray, List.getElem_cons_zero, List.getElem_cons_succ, List.setIfInBounds_toArray, List.set_cons_zero, List.set_cons_succ]
    refine wpAnyZ_take (i := 5) (v := .pointer (some ⟨b, 0, none⟩)) [7, 8, 9, 12] rfl (by kernel_rfl) (by kernel_rfl) (by kernel_rfl) (by kernel_rfl) (fun _ _ _ h => h) (Or.inl ⟨by kernel_rfl, fun w' hSw => ?_⟩) hHeld ?_
    · have k0 := hSw.1
      have k1 := hSw.2.1
      have k2 := hSw.2.2
      clear hHeld hSw
      go_simp
    simp only [Act.put, List.getElem_toArray, List.getElem_cons_zero, List.getElem_cons_succ, List.setIfInBounds_toArray, List.set_cons_zero, List.set_cons_succ]
    refine wpAnyZ_take (i := 6) (v := .int .i64 a) [7, 8, 9, 12] rfl (by kernel_rfl) (by kernel_rfl) (by kernel_rfl) (by kernel_rfl) (fun _ _ _ h => h) (Or.inl ⟨by kernel_rfl, fun w' hSw => ?_⟩) hHeld ?_
    · have k0 := hSw.1
      have k1 := hSw.2.1
      have k2 := hSw.2.2
      clear hHeld hSw
      go_simp
    simp only [Act.put, List.getElem_toArray, List.getElem_cons_zero, List.getElem_cons_succ, List.setIfInBounds_toArray, List.set_cons_zero, List.set_cons_succ]
    refine wpAnyZ_one (i := 7) (by kernel_rfl) rfl (fun K' hK => ?_)
    go_simp
    obtain ⟨k0, k1, k2⟩ := hHeld
    refine (fuGain_ok b a c hc ha _ k0).mono ?_
    rintro e w4 ⟨rfl, q4, hq4⟩
    subst w4
    refine hK.out _ _ ?_ (fun hHeld' => ?_)
    · exact ⟨k0, k1, k2⟩
    clear hK K'
    have hHeld := hHeld'
    clear hHeld'
    try simp only [Act.put, List.getElem_toArray, List.getElem_cons_zero, List.getElem_cons_succ, List.setIfInBounds_toArray, List.set_cons_zero, List.set_cons_succ]
    refine wpAnyZ_take (i := 8) (v := .int .i64 (a * a - c.rated * c.rated)) [9, 12] rfl (by kernel_rfl) (by kernel_rfl) (by kernel_rfl) (by kernel_rfl) (fun _ _ _ h => h) (Or.inl ⟨by kernel_rfl, fun w' hSw => ?_⟩) hHeld ?_
    · clear hHeld hSw
      go_simp
    simp only [Act.put, List.getElem_toArray, List.getElem_cons_zero, List.getElem_cons_succ, List.setIfInBounds_toArray, List.set_cons_zero, List.set_cons_succ]
    refine wpAnyZ_take (i := 9) (v := .int .i64 0) [12] rfl (by kernel_rfl) (by kernel_rfl) (by kernel_rfl) (by kernel_rfl) (fun _ _ _ h => h) (Or.inl ⟨by kernel_rfl, fun w' hSw => ?_⟩) hHeld ?_
    · clear hHeld hSw
      go_simp
      all_goals (intro hh; omega)
    simp only [Act.put, List.getElem_toArray, List.getElem_cons_zero, List.getElem_cons_succ, List.setIfInBounds_toArray, List.set_cons_zero, List.set_cons_succ]
    refine wpAnyZ_take (i := 10) (v := .pointer (some ⟨b, 0, none⟩)) [11, 12] rfl (by kernel_rfl) (by kernel_rfl) (by kernel_rfl) (by kernel_rfl) (fun _ _ _ h => h) (Or.inl ⟨by kernel_rfl, fun w' hSw => ?_⟩) hHeld ?_
    · clear hHeld hSw
      go_simp
    simp only [Act.put, List.getElem_toArray, List.getElem_cons_zero, List.getElem_cons_succ, List.setIfInBounds_toArray, List.set_cons_zero, List.set_cons_succ]
    refine wpAnyZ_take (i := 11) (v := .pointer (some ⟨b, 2, none⟩)) [12] rfl (by kernel_rfl) (by kernel_rfl) (by kernel_rfl) (by kernel_rfl) (fun _ _ _ h => h) (Or.inl ⟨by kernel_rfl, fun w' hSw => ?_⟩) hHeld ?_
    · clear hHeld hSw
      go_simp
    simp only [Act.put, List.getElem_toArray, List.getElem_cons_zero, List.getElem_cons_succ, List.setIfInBounds_toArray, List.set_cons_zero, List.set_cons_succ]
    refine wpAnyZ_last (i := 12) (by kernel_rfl) rfl (by kernel_rfl) (fun K' hK => ?_)
    clear hHeld
    have k2 : w.cell? ⟨b, 2, none⟩ = some (.int .i64 0) := HO.out.cell (i := 2) (by omega)
    have hf := HFZ0.out (1 + q4)
    go_simp
    rw [HSS0.out (1 + q4)]
    refine hK.out _ _ ?_
    clear hK K' hf k2
    try simp only [Act.put, List.getElem_toArray, List.getElem_cons_zero, List.getElem_cons_succ, List.setIfInBounds_toArray, List.set_cons_zero, List.set_cons_succ]
    refine wpAnyZ_done (by kernel_rfl) ?_ _
    go_wp2_with fail
    go_end0
    exact ⟨rfl, _, rfl⟩
theorem fuHeats_any (b : Nat) (A : Option Addr) (n cA : Nat) (w : World) : Calls Try.prog 62 #[.pointer (some ⟨b, 0, none⟩), .slice A n cA] w fun e w' =>
    e = .returned (.func (.func 89) #[] #[.pointer (some ⟨w.heap.size + 1, 0, none⟩), .pointer (some ⟨w.heap.size, 0, none⟩)]) ∧ w' = (w.alloc (.cells #[.pointer (some ⟨b, 0, none⟩)] 110)).alloc (.cells #[.slice A n cA] 29) := by
  go_enter Try.func62, Try.ntmps62
  go_wp2_with fail
  go_ret
  refine ⟨?_, rfl⟩
  simp
/-- What a round over the heats may not change. -/
structure KpH (B b bp : Nat) (W W' : World) : Prop where
  bel : Below B W W'
  s1 : W'.heap[b]? = W.heap[b]?
  s2 : W'.heap[bp]? = W.heap[bp]?
theorem Own.blk {w w' : World} {g : Nat} {t : TypeId} {n : Nat} {f : Nat → Value} (h : Own w g t n f) (e : w'.heap[g]? = w.heap[g]?) : Own w' g t n f := by
  obtain ⟨cs, hb, hs, hc⟩ := h
  exact ⟨cs, e.trans hb, hs, hc⟩
abbrev TkAt (n : Nat) : Type := { k : Nat // k < n }
set_option maxRecDepth 100000 in
set_option maxHeartbeats 4000000 in
theorem fuHeats1_in (m : Nat) (hm : 1 ≤ m) (l bx bp b B : Nat) (c : GCon) (hr : c.rated = 0 ∨ (1 ≤ c.rated ∧ c.rated ≤ 1000)) (A : Option Addr) (n cA : Nat) (xs : List Int) (hn : xs.length = n) (hn6 : n ≤ 1000000) (hin : ∀ i, i < n → (0 ≤ fI xs i ∧ fI xs i ≤ 1000) ∧ (c.rated = 0 ∨ fI xs i ≤ c.rated)) (J Jx : List (TkAt n) → World → Prop) (W : World)
    (hJ : AbidesFrom W.heap.size J)
    (hY : ∀ (pre : List (TkAt n)) (x : TkAt n) W1, J pre W1 → pre.length < n → YieldAt Fence.wide (m - 1) Try.prog l #[.int .i64 (x.1 : Nat), .int .i64 0] W1 fun e W' =>
      (e = .returned (.bool true) ∧ J (pre ++ [x]) W' ∧ KpH B b bp W1 W') ∨ (e = .returned (.bool false) ∧ Jx (pre ++ [x]) W'))
    (hbx : W.cell? ⟨bx, 0, none⟩ = some (.slice A n cA)) (ho : Own W b 112 3 (wfF c)) (hx : Rd 1 encI W A xs) (hAB : ∀ a, A = some a → a.block < B) (hp : W.cell? ⟨bp, 0, none⟩ = some (.pointer (some ⟨b, 0, none⟩))) (h0 : J [] W) :
    CallsIn Fence.wide m Try.prog 89 #[.func (.yield l) #[] #[], .pointer (some ⟨bx, 0, none⟩), .pointer (some ⟨bp, 0, none⟩)] W fun e W' => (∃ v, e = .returned v) ∧
      ((∃ ys : List (TkAt n), ys.map (·.1) = List.range n ∧ J ys W') ∨ (∃ pre : List (TkAt n), pre.map (·.1) <+: List.range n ∧ Jx pre W')) := by
  have HY := Lib.hid hY
  have HJ := Lib.hid hJ
  have HO := Lib.hid ho
  have HX := Lib.hid hx
  have HAB := Lib.hid hAB
  have HIN := Lib.hid hin
  have HN := Lib.hid hn
  have HR := Lib.hid hr
  clear hY hJ hin hn hr ho hx hAB
  refine callsIn_of_wp Try.func89 rfl trivial ?_ rfl
  simp only [Try.ntmps89, List.size_toArray, List.length_cons, List.length_nil, Nat.reduceAdd, Nat.reduceSub, Array.replicate_succ, Array.replicate_zero, List.push_toArray, List.append_toArray, List.nil_append, List.cons_append]
  gi_wp2
  gi_loopw [8] (fun i wr => ∃ (k : Nat) (pre : List (TkAt n)), i = .int .i64 (k : Nat) ∧ k ≤ n ∧ Hid (pre.map (·.1) = List.range k) ∧ Hid (J pre wr) ∧ Hid (Own wr b 112 3 (wfF c)) ∧ Hid (Rd 1 encI wr A xs) ∧ wr.cell? ⟨bp, 0, none⟩ = some (.pointer (some ⟨b, 0, none⟩))) (fun i _ => (n - (intOf i).toNat))
  case atStart => exact ⟨0, [], by rfl, by omega, Lib.hid (by simp), Lib.hid h0, HO, HX, hp⟩
  case round =>
    clear hbx h0 HO HX hp
    obtain ⟨k, pre, rfl, hk, Hpre, HJp, HO, HX, hp⟩ := hrel
    by_cases hlt : k < n
    · have hltz : (k : Int) < (n : Int) := by omega
      obtain ⟨bA, off, hA, hbl, hc⟩ := Rd.int HX.out (k := k) (by rw [HN.out]; exact hlt)
      have hc' : wr.cell? ⟨bA, off + k, none⟩ = some (.int .i64 (fI xs k)) := hc
      obtain ⟨hi1, hi2⟩ := HIN.out k hlt
      have HT := Lib.hid (fuTick_ok b (fI xs k) c HR.out hi1 hi2 wr HO)
      have hpl : pre.length < n := by
        have := congrArg List.length Hpre.out
        simp at this
        omega
      have HNX : Hid ((pre ++ [(⟨k, hlt⟩ : TkAt n)]).map (·.1) = List.range (k + 1)) := Lib.hid (by
        rw [List.map_append, Hpre.out, List.range_succ]
        rfl)
      have HPF : Hid ((pre ++ [(⟨k, hlt⟩ : TkAt n)]).map (·.1) <+: List.range n) := Lib.hid (by
        rw [HNX.out]
        exact range_pre (by omega))
      subst hA
      clear hc hi1 hi2
      generalize fI xs k = y at *
      gi_wp2
      refine ⟨trivial, callsIn_wide.2 (HT.out.mono ?_)⟩
      rintro e w4 ⟨rfl, q4, hw4⟩
      subst w4
      have hJ4 : J pre (wr.drewN q4) := HJ.out pre wr _ none HJp.out (grown_noneH (below_drewG _ (Below.refl _ _))) (fun r e => by cases e)
      have k2 : (wr.drewN q4).cell? ⟨b, 2, none⟩ = some (.int .i64 0) := HO.out.cell (i := 2) (by omega)
      obtain ⟨fn, tmps, assign, body, hy, hRd⟩ := HY.out pre ⟨k, hlt⟩ (wr.drewN q4) hJ4 hpl
      dsimp only at hy
      clear HT hc'
      gi_wp2
      refine hRd.mono ?_
      rintro e' W3 (⟨rfl, hJ3, hk3⟩ | ⟨rfl, hJx3⟩)
      · have HJ3 := Lib.hid hJ3
        have HO3 : Hid (Own W3 b 112 3 (wfF c)) := Lib.hid (Own.blk (w := wr.drewN q4) (HO.out.drewN q4) hk3.s1)
        have HX3 : Hid (Rd 1 encI W3 (some ⟨bA, off, none⟩) xs) := Lib.hid (Rd.belowB (w := wr.drewN q4) (HX.out.drewN q4) hk3.bel HAB.out)
        have hp3 : W3.cell? ⟨bp, 0, none⟩ = some (.pointer (some ⟨b, 0, none⟩)) := (World.cell?_of_block (w := wr.drewN q4) (a := ⟨bp, 0, none⟩) hk3.s2).trans hp
        clear hJ3 k2 hp
        gi_wp2
        go_roundw
        case rel => exact ⟨k + 1, _, by simp, by omega, HNX, HJ3, HO3, HX3, hp3⟩
        case measure => simp [intOf]; omega
      · gi_wp2
        refine bodyPost_ret (results_none rfl _ _ _) rfl ?_
        exact ⟨⟨_, rfl⟩, .inr ⟨_, HPF.out, hJx3⟩⟩
    · have hltz : ¬ (k : Int) < (n : Int) := by omega
      have hkn : k = n := by omega
      subst hkn
      gi_wp2
      go_end0
      exact ⟨⟨_, rfl⟩, .inl ⟨pre, Hpre.out, HJp.out⟩⟩
/-- The loop over the heats of a fuse that does not melt: the rounds never leave it. -/
theorem range_heats {n : Nat} {A : Option Addr} {cA : Nat} {xs : List Int} {c : GCon} (hr : c.rated = 0 ∨ (1 ≤ c.rated ∧ c.rated ≤ 1000)) (hn : xs.length = n) (hn6 : n ≤ 1000000) (hin : ∀ i, i < n → (0 ≤ fI xs i ∧ fI xs i ≤ 1000) ∧ (c.rated = 0 ∨ fI xs i ≤ c.rated)) {g : Operand} {p q : Tmp} {assign body : Code} {Q : Exit → Act → World → Prop} {a : Act} {w : World} (bx bp b B : Nat)
    (hg : a.eval g = .func (.func 89) #[] #[.pointer (some ⟨bx, 0, none⟩), .pointer (some ⟨bp, 0, none⟩)]) (hbx : w.cell? ⟨bx, 0, none⟩ = some (.slice A n cA)) (ho : Own w b 112 3 (wfF c)) (hx : Rd 1 encI w A xs) (hAB : ∀ a, A = some a → a.block < B) (hp : w.cell? ⟨bp, 0, none⟩ = some (.pointer (some ⟨b, 0, none⟩))) (hB : B ≤ w.heap.size)
    (I : List (TkAt n) → World → Prop) (hI : ∀ pre W W', I pre W → Nc w.heap.size W W' → I pre W') (h0 : I [] w) (Ax : TkAt n → Act → Prop)
    (hassign : ∀ (l : Nat) (x : TkAt n) (W : World) (K : Act → World → Prop), (∀ a', Ax x a' → K a' W) → assign.wpIn (Fence.wide.inRound l) 3 Try.prog (Exit.then K (fun _ _ _ => False)) { tmps := (a.tmps.setIfInBounds p (.int .i64 (x.1 : Nat))).setIfInBounds q (.int .i64 0), defers := [] } W)
    (hbody : ∀ (l : Nat) (pre : List (TkAt n)) (x : TkAt n) (a' : Act) (W : World), I pre W → Ax x a' → pre.length < n → body.wpIn (Fence.wide.inRound l) 3 Try.prog (ownPostG w.heap.size (KpH B b bp) I (fun _ _ _ => False) (pre ++ [x]) W) a' W)
    (hdone : ∀ (D : Nat) (ys : List (TkAt n)) (W : World), w.heap.size ≤ D → ys.map (·.1) = List.range n → I ys W → W.heap[D]? = some (.deferred (some [])) → Q .normal { a with defers := { target := .collected D, args := #[] } :: a.defers } W) :
    (Code.rangeFunc g #[p, q] assign body).wp Try.prog Q a w := by
  have lx := World.block_lt_of_cell? w _ hbx
  have lp := World.block_lt_of_cell? w _ hp
  dsimp only at lx lp
  refine (wpIn_wide (n := 5)).1 ?_
  refine wpIn_rangeFunc_ownH (F := Fence.wide) (α := TkAt n) rfl (by omega) (gf := 89) (lb := #[.pointer (some ⟨bx, 0, none⟩), .pointer (some ⟨bp, 0, none⟩)]) hg trivial (enters_of Try.func89 (by kernel_rfl) rfl)
    (encs := fun x => #[.int .i64 (x.1 : Nat), .int .i64 0]) (Kp := KpH B b bp) (S := fun (ys : List (TkAt n)) => ys.map (·.1) = List.range n) (Sp := fun (ys : List (TkAt n)) => List.IsPrefix (ys.map (fun (x : TkAt n) => x.1)) (List.range n)) (N := n) (w0 := w)
    (fun l J Jx W' hW' hJ _ hY h0 => fuHeats1_in 4 (by omega) l bx bp b B c hr A n cA xs hn hn6 hin J Jx W' hJ hY ((hW'.cell (p := ⟨bx, 0, none⟩) lx).trans hbx) (ho.keep hW' ho.lt) (hx.keep hW') hAB ((hW'.cell (p := ⟨bp, 0, none⟩) lp).trans hp) h0)
    ?hKt ?hKb (Below.refl _ _) (fun _ => rfl) I (fun _ _ _ => False) ?hI (fun _ _ _ _ _ h _ _ => h) h0 (fun x a' _ => Ax x a') (fun _ _ _ _ _ _ h _ _ => h) ?assign ?body ?done (fun _ _ _ _ _ _ h _ => h.elim)
  case hKt => exact fun h1 h2 => ⟨h1.bel.trans h2.bel, h2.s1.trans h1.s1, h2.s2.trans h1.s2⟩
  case hKb =>
    intro W' l o o' hl ho' _ _
    have := ho.lt
    exact ⟨⟨rfl, rfl, rfl, by simp, fun k hk => World.putObj_heap_other (by omega)⟩, World.putObj_heap_other (by omega), World.putObj_heap_other (by omega)⟩
  case hI => exact fun pre W1 W2 row h hg hr => hI pre W1 W2 h ⟨row, hg, hr⟩
  case assign =>
    intro l pre x W1 K hi hK
    have ht : (#[p, q].zip #[Value.int .i64 (x.1 : Nat), Value.int .i64 0]).foldl (fun t (p, v) => t.setIfInBounds p v) a.tmps = (a.tmps.setIfInBounds p (.int .i64 (x.1 : Nat))).setIfInBounds q (.int .i64 0) := by simp
    rw [ht]
    exact hassign l x W1 K (fun a' hx => hK a' W1 (KeepsFrom.refl _ _) ⟨Below.refl _ _, rfl, rfl⟩ hi hx)
  case body =>
    intro l pre x a' W1 hl hlr hi hx hlen
    exact hbody l pre x a' W1 hi hx hlen
  case done => exact fun D ys W1 hD hS hi hdf => hdone D ys W1 hD hS hi hdf
end Go.Proofs.Ytbalhbpaholakaa
