/-
Several texts in one: TwA, TwB, TwG, TwC, TwE.
-/
import Derived.Test.YtkbbapefgifagaaGreatDoorGLApp
import Derived.Laws.EntriesVeiled
/-
Two controllers: clocks, and what a lease is.
-/
namespace Go.Proofs.YtkbbapefgifagaaGreatDoor
open Go.RowKit
set_option linter.unusedVariables false
set_option linter.unusedSimpArgs false
/-- A lease. -/
structure Lse where
  num : Int
  chg : Int
  amp : Int
  frm : Int
  tck : Int
deriving DecidableEq
def encLse (x : Lse) : List Value := [.int .i64 x.num, .int .i64 x.chg, .int .i64 x.amp, .int .i64 x.frm, .int .i64 x.tck]
theorem encLse_len (x : Lse) : (encLse x).length = 5 := rfl
theorem encLse_one (x : Lse) (u : Value) (hu : u ∈ encLse x) : u.oneCell' = true := by
  simp [encLse] at hu
  rcases hu with rfl | rfl | rfl | rfl | rfl <;> rfl
/-- The leases of this law: all last twelve ticks. -/
structure LseOk (x : Lse) : Prop where
  n1 : 1 ≤ x.num
  n2 : x.num ≤ 1000000
  c1 : 0 ≤ x.chg
  c2 : x.chg ≤ 15
  a1 : 0 ≤ x.amp
  a2 : x.amp ≤ 80
  f1 : 0 ≤ x.frm
  f2 : x.frm ≤ 1000000
  t : x.tck = 12
def after (a b : Lse) : Prop := a.num < b.num ∧ a.frm ≤ b.frm
structure LsOk (l : List Lse) : Prop where
  len : l.length ≤ 64
  ok : ∀ x ∈ l, LseOk x
  chain : l.Pairwise after
theorem rdLse_at {w : World} {A : Option Addr} {xs : List Lse} (h : Rd 5 encLse w A xs) {k : Nat} (hk : k < xs.length) : ∃ b off x, A = some ⟨b, off, none⟩ ∧ b < w.heap.size ∧ xs[k]? = some x ∧ w.cell? ⟨b, off + k * 5, none⟩ = some (.int .i64 x.num) ∧ w.cell? ⟨b, off + k * 5 + 1, none⟩ = some (.int .i64 x.chg) ∧ w.cell? ⟨b, off + k * 5 + 2, none⟩ = some (.int .i64 x.amp) ∧ w.cell? ⟨b, off + k * 5 + 3, none⟩ = some (.int .i64 x.frm) ∧ w.cell? ⟨b, off + k * 5 + 4, none⟩ = some (.int .i64 x.tck) := by
  obtain ⟨b, off, x, hA, hb, hx, hc⟩ := h.at_ hk
  exact ⟨b, off, x, hA, hb, hx, hc 0 _ rfl, hc 1 _ rfl, hc 2 _ rfl, hc 3 _ rfl, hc 4 _ rfl⟩
/-- A boxed lease. -/
structure LseM (w W : World) (Y : Nat) (x : Lse) : Prop where
  bel : Below w.heap.size w W
  k0 : W.cell? ⟨Y, 0, none⟩ = some (.int .i64 x.num)
  k1 : W.cell? ⟨Y, 1, none⟩ = some (.int .i64 x.chg)
  k2 : W.cell? ⟨Y, 2, none⟩ = some (.int .i64 x.amp)
  k3 : W.cell? ⟨Y, 3, none⟩ = some (.int .i64 x.frm)
  k4 : W.cell? ⟨Y, 4, none⟩ = some (.int .i64 x.tck)
theorem LseM.keep {w W W' : World} {Y : Nat} {x : Lse} (h : LseM w W Y x) (hb : Below W.heap.size W W') : LseM w W' Y x :=
  ⟨h.bel.trans (hb.mono h.bel.size), (hb.cell (p := ⟨Y, 0, none⟩) (zb h.k0)).trans h.k0, (hb.cell (p := ⟨Y, 1, none⟩) (zb h.k1)).trans h.k1, (hb.cell (p := ⟨Y, 2, none⟩) (zb h.k2)).trans h.k2, (hb.cell (p := ⟨Y, 3, none⟩) (zb h.k3)).trans h.k3, (hb.cell (p := ⟨Y, 4, none⟩) (zb h.k4)).trans h.k4⟩
theorem LseM.box {w W : World} {x : Lse} (hb : Below w.heap.size w W) : LseM w (W.alloc (.cells #[.int .i64 x.num, .int .i64 x.chg, .int .i64 x.amp, .int .i64 x.frm, .int .i64 x.tck] 96)) W.heap.size x :=
  have hb1 : Below W.heap.size W (W.alloc (.cells #[.int .i64 x.num, .int .i64 x.chg, .int .i64 x.amp, .int .i64 x.frm, .int .i64 x.tck] 96)) := (Below.refl _ _).alloc (Nat.le_refl _) _
  ⟨hb.trans (hb1.mono hb.size), by go_simp, by go_simp, by go_simp, by go_simp, by go_simp⟩
/-! The clock. -/
theorem clDown_any (r n : Int) (w : World) (hr : r = 999800) (h0 : 0 ≤ n) (h1 : n ≤ 100) : Calls Tryz.prog 77 #[.int .i64 r, .int .i64 n] w fun e w' => e = .returned (.int .i64 (n * 999800 / 1000000)) ∧ w' = w := by
  subst hr
  have hw : IntKind.i64.wrap (n * 999800) = n * 999800 := IntWalk.i64_in _ (by omega)
  have hd : (n * 999800).tdiv 1000000 = n * 999800 / 1000000 := Int.tdiv_eq_ediv_of_nonneg (by omega)
  have hw2 : IntKind.i64.wrap (n * 999800 / 1000000) = n * 999800 / 1000000 := IntWalk.i64_in _ (by omega)
  go_enter Tryz.func77, Tryz.ntmps77
  go_wp2_with fail
  go_ret
  exact ⟨rfl, rfl⟩
theorem clIsTicks_ok (n : Int) (w : World) (h0 : 0 ≤ n) (h1 : n ≤ 1000000) : Calls Tryz.prog 75 #[.int .i64 n] w fun e w' => e = .returned (.bool true) ∧ w' = w := by
  go_enter Tryz.func75, Tryz.ntmps75
  go_wp2_with fail
  go_ret
  exact ⟨rfl, rfl⟩
/-- The predicate of the search: whether n ticks of the slowest clock count twelve. -/
theorem clReach1_any (b4 b3 b5 : Nat) (n : Int) (w : World) (h0 : 0 ≤ n) (h1 : n ≤ 100) (k4 : w.cell? ⟨b4, 0, none⟩ = some (.func (.func 77) #[] #[])) (k3 : w.cell? ⟨b3, 0, none⟩ = some (.int .i64 999800)) (k5 : w.cell? ⟨b5, 0, none⟩ = some (.int .i64 12)) :
    Calls Tryz.prog 95 #[.int .i64 n, .pointer (some ⟨b4, 0, none⟩), .pointer (some ⟨b3, 0, none⟩), .pointer (some ⟨b5, 0, none⟩)] w fun e w' => e = .returned (.bool (decide (13 ≤ n))) ∧ Below w.heap.size w w' := by
  have hl4 := World.block_lt_of_cell? w _ k4
  have hl3 := World.block_lt_of_cell? w _ k3
  have hl5 := World.block_lt_of_cell? w _ k5
  dsimp only at hl4 hl3 hl5
  obtain ⟨z, hz⟩ : ∃ z, decide (13 ≤ n) = z := ⟨_, rfl⟩
  obtain ⟨v, hv⟩ : ∃ v, v = n * 999800 / 1000000 := ⟨_, rfl⟩
  have hd : decide (12 ≤ v) = z := by
    rw [← hz]
    by_cases h : 13 ≤ n
    · rw [decide_eq_true h, decide_eq_true]; omega
    · rw [decide_eq_false h, decide_eq_false]; omega
  rw [hz]
  clear hz
  go_enter Tryz.func95, Tryz.ntmps95
  cases z
  · have hd' : ¬ 12 ≤ v := by simpa using hd
    go_wp2_with fail
    refine region_z (S := fun w' => Below w.heap.size w w') [] (by kernel_rfl) ((Below.refl _ _).drew) (fun hHeld => ?_)
    refine zt (i := 0) (v := .func (.func 77) #[] #[]) [] (fun w' hSw => ?_) hHeld ?_
    · have k4' := (hSw.cell (p := ⟨b4, 0, none⟩) hl4).trans k4
      have k3' := (hSw.cell (p := ⟨b3, 0, none⟩) hl3).trans k3
      have k5' := (hSw.cell (p := ⟨b5, 0, none⟩) hl5).trans k5
      have hs' := hSw.size
      have hl4' : b4 < w'.heap.size := by omega
      have hl3' : b3 < w'.heap.size := by omega
      have hl5' : b5 < w'.heap.size := by omega
      clear hs'
      clear hHeld hSw
      go_simp
    simp only [Act.put, zl0, zl1, zl2, zl3, zl4, zl5]
    refine zt (i := 1) (v := .int .i64 999800) [] (fun w' hSw => ?_) hHeld ?_
    · have k4' := (hSw.cell (p := ⟨b4, 0, none⟩) hl4).trans k4
      have k3' := (hSw.cell (p := ⟨b3, 0, none⟩) hl3).trans k3
      have k5' := (hSw.cell (p := ⟨b5, 0, none⟩) hl5).trans k5
      have hs' := hSw.size
      have hl4' : b4 < w'.heap.size := by omega
      have hl3' : b3 < w'.heap.size := by omega
      have hl5' : b5 < w'.heap.size := by omega
      clear hs'
      clear hHeld hSw
      go_simp
    simp only [Act.put, zl0, zl1, zl2, zl3, zl4, zl5]
    refine zt (i := 2) (v := .int .i64 n) [] (fun w' hSw => ?_) hHeld ?_
    · have k4' := (hSw.cell (p := ⟨b4, 0, none⟩) hl4).trans k4
      have k3' := (hSw.cell (p := ⟨b3, 0, none⟩) hl3).trans k3
      have k5' := (hSw.cell (p := ⟨b5, 0, none⟩) hl5).trans k5
      have hs' := hSw.size
      have hl4' : b4 < w'.heap.size := by omega
      have hl3' : b3 < w'.heap.size := by omega
      have hl5' : b5 < w'.heap.size := by omega
      clear hs'
      clear hHeld hSw
      go_simp
    simp only [Act.put, zl0, zl1, zl2, zl3, zl4, zl5]
    refine zt (i := 4) (v := .int .i64 12) [] (fun w' hSw => ?_) hHeld ?_
    · have k4' := (hSw.cell (p := ⟨b4, 0, none⟩) hl4).trans k4
      have k3' := (hSw.cell (p := ⟨b3, 0, none⟩) hl3).trans k3
      have k5' := (hSw.cell (p := ⟨b5, 0, none⟩) hl5).trans k5
      have hs' := hSw.size
      have hl4' : b4 < w'.heap.size := by omega
      have hl3' : b3 < w'.heap.size := by omega
      have hl5' : b5 < w'.heap.size := by omega
      clear hs'
      clear hHeld hSw
      go_simp
    simp only [Act.put, zl0, zl1, zl2, zl3, zl4, zl5]
    refine zo 3 (fun K' hK => ?_)
    rw [if_pos (by rfl)]
    go_simp
    refine (clDown_any _ n _ rfl h0 h1).mono ?_
    rintro e w1 ⟨rfl, hw⟩
    subst hw
    refine hK.out _ _ ?_ (fun hHeld' => ?_)
    · exact hHeld
    clear hK K' hHeld
    have hHeld := hHeld'
    clear hHeld'
    try simp only [Act.put, zl0, zl1, zl2, zl3, zl4, zl5]
    refine zt (i := 5) (v := .bool false) [] (fun w' hSw => ?_) hHeld ?_
    · have k4' := (hSw.cell (p := ⟨b4, 0, none⟩) hl4).trans k4
      have k3' := (hSw.cell (p := ⟨b3, 0, none⟩) hl3).trans k3
      have k5' := (hSw.cell (p := ⟨b5, 0, none⟩) hl5).trans k5
      have hs' := hSw.size
      have hl4' : b4 < w'.heap.size := by omega
      have hl3' : b3 < w'.heap.size := by omega
      have hl5' : b5 < w'.heap.size := by omega
      clear hs'
      clear hHeld hSw
      go_simp
      first | done | omega
    simp only [Act.put, zl0, zl1, zl2, zl3, zl4, zl5]
    refine zt (i := 6) (v := .bool false) [] (fun w' hSw => ?_) hHeld ?_
    · have k4' := (hSw.cell (p := ⟨b4, 0, none⟩) hl4).trans k4
      have k3' := (hSw.cell (p := ⟨b3, 0, none⟩) hl3).trans k3
      have k5' := (hSw.cell (p := ⟨b5, 0, none⟩) hl5).trans k5
      have hs' := hSw.size
      have hl4' : b4 < w'.heap.size := by omega
      have hl3' : b3 < w'.heap.size := by omega
      have hl5' : b5 < w'.heap.size := by omega
      clear hs'
      clear hHeld hSw
      go_simp
    simp only [Act.put, zl0, zl1, zl2, zl3, zl4, zl5]
    refine wpAnyZ_done (by kernel_rfl) ?_ _
    go_wp2_with fail
    go_ret
    exact ⟨rfl, hHeld⟩
  · have hd' : 12 ≤ v := by simpa using hd
    go_wp2_with fail
    refine region_z (S := fun w' => Below w.heap.size w w') [] (by kernel_rfl) ((Below.refl _ _).drew) (fun hHeld => ?_)
    refine zt (i := 0) (v := .func (.func 77) #[] #[]) [] (fun w' hSw => ?_) hHeld ?_
    · have k4' := (hSw.cell (p := ⟨b4, 0, none⟩) hl4).trans k4
      have k3' := (hSw.cell (p := ⟨b3, 0, none⟩) hl3).trans k3
      have k5' := (hSw.cell (p := ⟨b5, 0, none⟩) hl5).trans k5
      have hs' := hSw.size
      have hl4' : b4 < w'.heap.size := by omega
      have hl3' : b3 < w'.heap.size := by omega
      have hl5' : b5 < w'.heap.size := by omega
      clear hs'
      clear hHeld hSw
      go_simp
    simp only [Act.put, zl0, zl1, zl2, zl3, zl4, zl5]
    refine zt (i := 1) (v := .int .i64 999800) [] (fun w' hSw => ?_) hHeld ?_
    · have k4' := (hSw.cell (p := ⟨b4, 0, none⟩) hl4).trans k4
      have k3' := (hSw.cell (p := ⟨b3, 0, none⟩) hl3).trans k3
      have k5' := (hSw.cell (p := ⟨b5, 0, none⟩) hl5).trans k5
      have hs' := hSw.size
      have hl4' : b4 < w'.heap.size := by omega
      have hl3' : b3 < w'.heap.size := by omega
      have hl5' : b5 < w'.heap.size := by omega
      clear hs'
      clear hHeld hSw
      go_simp
    simp only [Act.put, zl0, zl1, zl2, zl3, zl4, zl5]
    refine zt (i := 2) (v := .int .i64 n) [] (fun w' hSw => ?_) hHeld ?_
    · have k4' := (hSw.cell (p := ⟨b4, 0, none⟩) hl4).trans k4
      have k3' := (hSw.cell (p := ⟨b3, 0, none⟩) hl3).trans k3
      have k5' := (hSw.cell (p := ⟨b5, 0, none⟩) hl5).trans k5
      have hs' := hSw.size
      have hl4' : b4 < w'.heap.size := by omega
      have hl3' : b3 < w'.heap.size := by omega
      have hl5' : b5 < w'.heap.size := by omega
      clear hs'
      clear hHeld hSw
      go_simp
    simp only [Act.put, zl0, zl1, zl2, zl3, zl4, zl5]
    refine zt (i := 4) (v := .int .i64 12) [] (fun w' hSw => ?_) hHeld ?_
    · have k4' := (hSw.cell (p := ⟨b4, 0, none⟩) hl4).trans k4
      have k3' := (hSw.cell (p := ⟨b3, 0, none⟩) hl3).trans k3
      have k5' := (hSw.cell (p := ⟨b5, 0, none⟩) hl5).trans k5
      have hs' := hSw.size
      have hl4' : b4 < w'.heap.size := by omega
      have hl3' : b3 < w'.heap.size := by omega
      have hl5' : b5 < w'.heap.size := by omega
      clear hs'
      clear hHeld hSw
      go_simp
    simp only [Act.put, zl0, zl1, zl2, zl3, zl4, zl5]
    refine zo 3 (fun K' hK => ?_)
    rw [if_pos (by rfl)]
    go_simp
    refine (clDown_any _ n _ rfl h0 h1).mono ?_
    rintro e w1 ⟨rfl, hw⟩
    subst hw
    refine hK.out _ _ ?_ (fun hHeld' => ?_)
    · exact hHeld
    clear hK K' hHeld
    have hHeld := hHeld'
    clear hHeld'
    try simp only [Act.put, zl0, zl1, zl2, zl3, zl4, zl5]
    refine zt (i := 5) (v := .bool true) [] (fun w' hSw => ?_) hHeld ?_
    · have k4' := (hSw.cell (p := ⟨b4, 0, none⟩) hl4).trans k4
      have k3' := (hSw.cell (p := ⟨b3, 0, none⟩) hl3).trans k3
      have k5' := (hSw.cell (p := ⟨b5, 0, none⟩) hl5).trans k5
      have hs' := hSw.size
      have hl4' : b4 < w'.heap.size := by omega
      have hl3' : b3 < w'.heap.size := by omega
      have hl5' : b5 < w'.heap.size := by omega
      clear hs'
      clear hHeld hSw
      go_simp
      first | done | omega
    simp only [Act.put, zl0, zl1, zl2, zl3, zl4, zl5]
    refine zt (i := 6) (v := .bool true) [] (fun w' hSw => ?_) hHeld ?_
    · have k4' := (hSw.cell (p := ⟨b4, 0, none⟩) hl4).trans k4
      have k3' := (hSw.cell (p := ⟨b3, 0, none⟩) hl3).trans k3
      have k5' := (hSw.cell (p := ⟨b5, 0, none⟩) hl5).trans k5
      have hs' := hSw.size
      have hl4' : b4 < w'.heap.size := by omega
      have hl3' : b3 < w'.heap.size := by omega
      have hl5' : b5 < w'.heap.size := by omega
      clear hs'
      clear hHeld hSw
      go_simp
    simp only [Act.put, zl0, zl1, zl2, zl3, zl4, zl5]
    refine wpAnyZ_done (by kernel_rfl) ?_ _
    go_wp2_with fail
    go_ret
    exact ⟨rfl, hHeld⟩
/-- The memory of the search. -/
structure ClkM (w W : World) (b3 b4 b5 : Nat) : Prop where
  bel : Below w.heap.size w W
  k3 : W.cell? ⟨b3, 0, none⟩ = some (.int .i64 999800)
  k4 : W.cell? ⟨b4, 0, none⟩ = some (.func (.func 77) #[] #[])
  k5 : W.cell? ⟨b5, 0, none⟩ = some (.int .i64 12)
theorem ClkM.keep {w W W' : World} {b3 b4 b5 : Nat} (h : ClkM w W b3 b4 b5) (hb : Below W.heap.size W W') : ClkM w W' b3 b4 b5 :=
  ⟨h.bel.trans (hb.mono h.bel.size), (hb.cell (p := ⟨b3, 0, none⟩) (zb h.k3)).trans h.k3, (hb.cell (p := ⟨b4, 0, none⟩) (zb h.k4)).trans h.k4, (hb.cell (p := ⟨b5, 0, none⟩) (zb h.k5)).trans h.k5⟩
theorem clLeast_any (b3 b4 b5 : Nat) (w : World) (HK : Hid (ClkM w w b3 b4 b5)) :
    Calls Tryz.prog 94 #[.int .i64 0, .int .i64 26, .func (.func 95) #[] #[.pointer (some ⟨b4, 0, none⟩), .pointer (some ⟨b3, 0, none⟩), .pointer (some ⟨b5, 0, none⟩)]] w fun e w' => e = .returned (.int .i64 13) ∧ Below w.heap.size w w' := by
  go_enter Tryz.func94, Tryz.ntmps94
  go_wp2_with fail
  go_loopg [0, 1] 26 (fun g1 v0 v1 wr => ∃ a b : Int, v0 = .int .i64 a ∧ v1 = .int .i64 b ∧ 0 ≤ a ∧ a ≤ 13 ∧ 13 ≤ b ∧ b ≤ 26 ∧ b - a ≤ g1 ∧ Hid (ClkM w wr b3 b4 b5))
  case atStart => exact ⟨0, 26, rfl, rfl, by omega, by omega, by omega, by omega, by omega, HK⟩
  case round =>
    clear HK
    obtain ⟨a, b, rfl, rfl, ha0, ha, hb0, hb, hg1, HM⟩ := hrel
    by_cases hlt : a < b
    · obtain ⟨m, hm⟩ : ∃ m, m = a + (b - a) / 2 := ⟨_, rfl⟩
      have hd : (b - a).tdiv 2 = (b - a) / 2 := Int.tdiv_eq_ediv_of_nonneg (by omega)
      have w1' : IntKind.i64.wrap (b - a) = b - a := IntWalk.i64_in _ (by omega)
      have w2' : IntKind.i64.wrap ((b - a) / 2) = (b - a) / 2 := IntWalk.i64_in _ (by omega)
      have w3' : IntKind.i64.wrap (a + (b - a) / 2) = a + (b - a) / 2 := IntWalk.i64_in _ (by omega)
      have hm0 : a ≤ m ∧ m < b := by omega
      obtain ⟨hm1, hm2⟩ := hm0
      have w4' : IntKind.i64.wrap (m + 1) = m + 1 := IntWalk.i64_in _ (by omega)
      have HMM := Lib.hid hm.symm
      clear hm
      go_upto_region 3 with (fail)
      rw [HMM.out]
      clear HMM hd w1' w2' w3'
      go_wp2_with fail
      refine (clReach1_any b4 b3 b5 m wr (by omega) (by omega) HM.out.k4 HM.out.k3 HM.out.k5).mono ?_
      rintro e w2 ⟨rfl, hb2⟩
      have HM := Lib.hid (HM.out.keep hb2)
      clear hb2
      by_cases h13 : 13 ≤ m
      · rw [decide_eq_true h13]
        go_wp2_with fail
        go_roundg ((b - a).toNat - 1)
        case measure => omega
        case rel => exact ⟨a, m, rfl, rfl, by omega, by omega, by omega, by omega, by omega, HM⟩
      · rw [decide_eq_false h13]
        go_wp2_with fail
        go_roundg ((b - a).toNat - 1)
        case measure => omega
        case rel => exact ⟨m + 1, b, rfl, rfl, by omega, by omega, by omega, by omega, by omega, HM⟩
    · have ha13 : a = 13 := by omega
      subst ha13
      have hb13 : b = 13 := by omega
      subst hb13
      go_wp2_with fail
      go_ret
      exact ⟨rfl, HM.out.bel⟩
theorem clReach_any (w : World) :
    Calls Tryz.prog 76 #[.int .i64 999800, .func (.func 77) #[] #[], .int .i64 12] w fun e w' => e = .returned (.int .i64 13) ∧ Below w.heap.size w w' := by
  go_enter Tryz.func76, Tryz.ntmps76
  go_upto_region 1 with (fail)
  obtain ⟨W0, hW0⟩ : ∃ W0, W0 = ((w.alloc (.cells #[.int .i64 999800] 152)).alloc (.cells #[.func (.func 77) #[] #[]] 153)).alloc (.cells #[.int .i64 12] 3) := ⟨_, rfl⟩
  have HM : Hid (ClkM w W0 w.heap.size (w.heap.size + 1) (w.heap.size + 1 + 1)) := Lib.hid ⟨by rw [hW0]; exact (((Below.refl _ _).alloc (Nat.le_refl _) _).alloc (by simp) _).alloc (by simp; omega) _, by rw [hW0]; go_simp, by rw [hW0]; go_simp, by rw [hW0]; go_simp⟩
  rw [← hW0]
  clear hW0
  have k5 := HM.out.k5
  have hl5 := zb k5
  dsimp only at hl5
  go_wp2_with fail
  refine (clLeast_any w.heap.size (w.heap.size + 1) (w.heap.size + 1 + 1) W0 (Lib.hid ⟨Below.refl _ _, HM.out.k3, HM.out.k4, HM.out.k5⟩)).mono ?_
  rintro e w2 ⟨rfl, hb2⟩
  have HM := Lib.hid (HM.out.keep hb2)
  clear hb2 k5 hl5
  go_wp2_with fail
  go_ret
  exact ⟨rfl, HM.out.bel⟩
theorem clWait_any (w : World) : Calls Tryz.prog 55 #[.int .i64 12] w fun e w' => e = .returned (.tuple #[.int .i64 13, .int .i64 0]) ∧ Below w.heap.size w w' := by
  go_enter Tryz.func55, Tryz.ntmps55
  go_wp2_with (go_at_call 75; refine (clIsTicks_ok _ _ (by omega) (by omega)).mono ?_; rintro e w' ⟨rfl, rfl⟩)
  refine (clReach_any _).mono ?_
  rintro e w2 ⟨rfl, hb2⟩
  go_wp2_with fail
  go_ret2
  exact ⟨rfl, hb2⟩
/-! Leases. -/
theorem leIn_ok (n a b : Int) (w : World) (h1 : a ≤ n) (h2 : n ≤ b) : Calls Tryz.prog 32 #[.int .i64 n, .int .i64 a, .int .i64 b] w fun e w' => e = .returned (.bool true) ∧ w' = w := by
  go_enter Tryz.func32, Tryz.ntmps32
  go_wp2
  go_ret
  exact ⟨rfl, rfl⟩
theorem leOne_ok (x : Lse) (w : World) (hx : LseOk x) : Calls Tryz.prog 46 #[.agg #[.int .i64 x.num, .int .i64 x.chg, .int .i64 x.amp, .int .i64 x.frm, .int .i64 x.tck]] w fun e w' => e = .returned (.bool true) ∧ Below w.heap.size w w' := by
  obtain ⟨h1, h2, h3, h4, h5, h6, h7, h8, h9⟩ := hx
  go_enter Tryz.func46, Tryz.ntmps46
  go_wp2_with (go_at_call 32; refine (leIn_ok _ _ _ _ (by omega) (by omega)).mono ?_; rintro e w' ⟨rfl, rfl⟩)
  go_ret
  exact ⟨rfl, (Below.refl _ _).alloc (Nat.le_refl _) _⟩
theorem leFollows_any (a b : Lse) (w : World) (h : after a b) : Calls Tryz.prog 47 #[.agg #[.int .i64 a.num, .int .i64 a.chg, .int .i64 a.amp, .int .i64 a.frm, .int .i64 a.tck], .agg #[.int .i64 b.num, .int .i64 b.chg, .int .i64 b.amp, .int .i64 b.frm, .int .i64 b.tck]] w fun e w' => e = .returned (.bool true) ∧ Below w.heap.size w w' := by
  obtain ⟨h1, h2⟩ := h
  go_enter Tryz.func47, Tryz.ntmps47
  go_wp2_with fail
  go_ret
  exact ⟨rfl, ((Below.refl _ _).alloc (Nat.le_refl _) _).alloc (by simp) _⟩
theorem leEnd_any (x : Lse) (w : World) (hx : LseOk x) : Calls Tryz.prog 40 #[.agg #[.int .i64 x.num, .int .i64 x.chg, .int .i64 x.amp, .int .i64 x.frm, .int .i64 x.tck]] w fun e w' => e = .returned (.int .i64 (x.frm + 23)) ∧ Below w.heap.size w w' := by
  have h7 := hx.f1
  have h8 := hx.f2
  have HT := Lib.hid hx.t
  clear hx
  have w1' : IntKind.i64.wrap (x.frm + 10) = x.frm + 10 := IntWalk.i64_in _ (by omega)
  have w2' : IntKind.i64.wrap (x.frm + 10 + 13) = x.frm + 10 + 13 := IntWalk.i64_in _ (by omega)
  obtain ⟨W0, hW0⟩ : ∃ W0, W0 = w.alloc (.cells #[.int .i64 x.num, .int .i64 x.chg, .int .i64 x.amp, .int .i64 x.frm, .int .i64 x.tck] 96) := ⟨_, rfl⟩
  obtain ⟨Y, hY⟩ : ∃ Y, Y = w.heap.size := ⟨_, rfl⟩
  have HM : Hid (LseM w W0 Y x) := Lib.hid (by rw [hW0, hY]; exact LseM.box (Below.refl _ _))
  have HW0 := Lib.hid (And.intro hW0.symm hY.symm)
  clear hW0 hY
  go_enter Tryz.func40, Tryz.ntmps40
  go_upto_region 1 with (fail)
  rw [HW0.out.1, HW0.out.2]
  clear HW0
  have k4 := HM.out.k4
  rw [HT.out] at k4
  have hlY := zb k4
  dsimp only at hlY
  go_wp2_with fail
  refine (clWait_any W0).mono ?_
  rintro e w2 ⟨rfl, hb2⟩
  have HM := Lib.hid (HM.out.keep hb2)
  clear hb2 k4 hlY
  have k3 := HM.out.k3
  have hlY := zb k3
  dsimp only at hlY
  go_wp2_with fail
  go_ret
  exact ⟨ret_int (by omega), HM.out.bel⟩
end Go.Proofs.YtkbbapefgifagaaGreatDoor
/-
Two controllers: package lease: Valid, Grant, Expire.
-/
namespace Go.Proofs.YtkbbapefgifagaaGreatDoor
open Go.RowKit
set_option linter.unusedVariables false
set_option linter.unusedSimpArgs false
theorem LsOk.at_ {ls : List Lse} (h : LsOk ls) {k : Nat} {x : Lse} (hx : ls[k]? = some x) : LseOk x := h.ok x (List.mem_of_getElem? hx)
theorem LsOk.next {ls : List Lse} (h : LsOk ls) {k : Nat} {x y : Lse} (hx : ls[k]? = some x) (hy : ls[k + 1]? = some y) : after x y := by
  obtain ⟨h1, e1⟩ := List.getElem?_eq_some_iff.1 hx
  obtain ⟨h2, e2⟩ := List.getElem?_eq_some_iff.1 hy
  rw [← e1, ← e2]
  exact List.pairwise_iff_getElem.1 h.chain k (k + 1) h1 h2 (by omega)
set_option maxRecDepth 100000 in
set_option maxHeartbeats 8000000 in
theorem leValid_ok (aL : Option Addr) (nL cL : Nat) (ls : List Lse) (w : World) (HX : Hid (Rd 5 encLse w aL ls)) (HN : Hid (ls.length = nL)) (HO : Hid (LsOk ls)) : Calls Tryz.prog 31 #[.slice aL nL cL] w fun e w' => e = .returned (.bool true) ∧ Below w.heap.size w w' := by
  have hn64 : nL ≤ 64 := by rw [← HN.out]; exact HO.out.len
  go_enter Tryz.func31, Tryz.ntmps31
  go_wp2_with fail
  go_loopg [10] nL (fun g1 v10 wr => ∃ i : Nat, v10 = .int .i64 i ∧ i ≤ nL ∧ nL - i ≤ g1 ∧ Hid (Below w.heap.size w wr))
  case atStart => exact ⟨0, by go_num, by omega, by omega, Lib.hid (Below.refl _ _)⟩
  case round =>
    obtain ⟨i, rfl, hi, hg1, HB⟩ := hrel
    by_cases hlt : i < nL
    · have hltz : (i : Int) < (nL : Int) := by omega
      obtain ⟨bb, off, x, hA, hlb0, hgx, c0, c1, c2, c3, c4⟩ := rdLse_at (HX.out.keep HB.out) (show i < ls.length by rw [HN.out]; exact hlt)
      have HOX := Lib.hid (HO.out.at_ hgx)
      obtain ⟨w1, hw1⟩ : ∃ W, W = wr.alloc (.cells #[.int .i64 x.num, .int .i64 x.chg, .int .i64 x.amp, .int .i64 x.frm, .int .i64 x.tck] 96) := ⟨_, rfl⟩
      obtain ⟨Y, hY⟩ : ∃ Y, Y = wr.heap.size := ⟨_, rfl⟩
      have hb1 : Below wr.heap.size wr w1 := by rw [hw1]; exact (Below.refl _ _).alloc (Nat.le_refl _) _
      have HY : Hid (LseM wr w1 Y x) := Lib.hid (by rw [hw1, hY]; exact LseM.box (Below.refl _ _))
      have HB := Lib.hid (below_then HB.out hb1)
      have HW1 := Lib.hid (And.intro hw1.symm hY.symm)
      clear hw1 hY hb1
      have HGX := Lib.hid hgx
      have HA := Lib.hid hA
      subst hA
      clear hgx
      go_upto_region 6 with (fail)
      rw [HW1.out.1, HW1.out.2]
      clear HW1 c0 c1 c2 c3 c4
      obtain ⟨y0, y1, y2, y3, y4⟩ : w1.cell? ⟨Y, 0, none⟩ = some (.int .i64 x.num) ∧ w1.cell? ⟨Y, 1, none⟩ = some (.int .i64 x.chg) ∧ w1.cell? ⟨Y, 2, none⟩ = some (.int .i64 x.amp) ∧ w1.cell? ⟨Y, 3, none⟩ = some (.int .i64 x.frm) ∧ w1.cell? ⟨Y, 4, none⟩ = some (.int .i64 x.tck) := ⟨HY.out.k0, HY.out.k1, HY.out.k2, HY.out.k3, HY.out.k4⟩
      have hlY : Y < w1.heap.size := World.block_lt_of_cell? w1 _ y0
      by_cases hi0 : i = 0
      · subst hi0
        refine region_z (S := fun w' => Below w1.heap.size w1 w') [] (by kernel_rfl) ((Below.refl _ _).drew) (fun hHeld => ?_)
        refine zt (i := 0) (v := .agg #[.int .i64 x.num, .int .i64 x.chg, .int .i64 x.amp, .int .i64 x.frm, .int .i64 x.tck]) [] (fun w' hSw => ?_) hHeld ?_
        · have y0' := (hSw.cell (p := ⟨Y, 0, none⟩) hlY).trans y0
          have y1' := (hSw.cell (p := ⟨Y, 1, none⟩) hlY).trans y1
          have y2' := (hSw.cell (p := ⟨Y, 2, none⟩) hlY).trans y2
          have y3' := (hSw.cell (p := ⟨Y, 3, none⟩) hlY).trans y3
          have y4' := (hSw.cell (p := ⟨Y, 4, none⟩) hlY).trans y4
          have hlY' : Y < w'.heap.size := Nat.lt_of_lt_of_le hlY hSw.size
          clear hHeld hSw
          go_simp
        simp only [Act.put, zl0, zl1, zl2, zl3, zl4, zl5]
        refine zo 1 (fun K' hK => ?_)
        go_simp
        refine (leOne_ok x _ HOX.out).mono ?_
        rintro e w2 ⟨rfl, hb2⟩
        refine hK.out _ _ ?_ (fun hHeld' => ?_)
        · exact below_then hHeld hb2
        clear hK K' hHeld hb2
        have hHeld := hHeld'
        clear hHeld'
        try simp only [Act.put, zl0, zl1, zl2, zl3, zl4, zl5]
        refine zt (i := 2) (v := .bool false) [] (fun w' hSw => ?_) hHeld ?_
        · clear hHeld hSw
          go_simp
        simp only [Act.put, zl0, zl1, zl2, zl3, zl4, zl5]
        refine zt (i := 3) (v := .bool false) [] (fun w' hSw => ?_) hHeld ?_
        · clear hHeld hSw
          go_simp
        simp only [Act.put, zl0, zl1, zl2, zl3, zl4, zl5]
        refine zt (i := 4) (v := .int .i64 0) [] (fun w' hSw => ?_) hHeld ?_
        · clear hHeld hSw
          go_simp
        simp only [Act.put, zl0, zl1, zl2, zl3, zl4, zl5]
        refine zt (i := 5) (v := .bool false) [] (fun w' hSw => ?_) hHeld ?_
        · clear hHeld hSw
          go_simp
          first | done | omega
        simp only [Act.put, zl0, zl1, zl2, zl3, zl4, zl5]
        refine zt (i := 6) (v := .bool false) [] (fun w' hSw => ?_) hHeld ?_
        · clear hHeld hSw
          go_simp
        simp only [Act.put, zl0, zl1, zl2, zl3, zl4, zl5]
        refine wpAnyZ_take (i := 7) (v := undef) [] rfl (by kernel_rfl) (by kernel_rfl) (by kernel_rfl) (by kernel_rfl) (fun _ _ _ h => h) (Or.inr ⟨by kernel_rfl, rfl⟩) hHeld ?_
        simp only [Act.put, zl0, zl1, zl2, zl3, zl4, zl5]
        refine wpAnyZ_take (i := 8) (v := undef) [] rfl (by kernel_rfl) (by kernel_rfl) (by kernel_rfl) (by kernel_rfl) (fun _ _ _ h => h) (Or.inr ⟨by kernel_rfl, rfl⟩) hHeld ?_
        simp only [Act.put, zl0, zl1, zl2, zl3, zl4, zl5]
        refine wpAnyZ_take (i := 9) (v := undef) [] rfl (by kernel_rfl) (by kernel_rfl) (by kernel_rfl) (by kernel_rfl) (fun _ _ _ h => h) (Or.inr ⟨by kernel_rfl, rfl⟩) hHeld ?_
        simp only [Act.put, zl0, zl1, zl2, zl3, zl4, zl5]
        refine wpAnyZ_take (i := 10) (v := undef) [] rfl (by kernel_rfl) (by kernel_rfl) (by kernel_rfl) (by kernel_rfl) (fun _ _ _ h => h) (Or.inr ⟨by kernel_rfl, rfl⟩) hHeld ?_
        simp only [Act.put, zl0, zl1, zl2, zl3, zl4, zl5]
        refine wpAnyZ_take (i := 11) (v := undef) [] rfl (by kernel_rfl) (by kernel_rfl) (by kernel_rfl) (by kernel_rfl) (fun _ _ _ h => h) (Or.inr ⟨by kernel_rfl, rfl⟩) hHeld ?_
        simp only [Act.put, zl0, zl1, zl2, zl3, zl4, zl5]
        refine wpAnyZ_take (i := 12) (v := undef) [] rfl (by kernel_rfl) (by kernel_rfl) (by kernel_rfl) (by kernel_rfl) (fun _ _ _ h => h) (Or.inr ⟨by kernel_rfl, rfl⟩) hHeld ?_
        simp only [Act.put, zl0, zl1, zl2, zl3, zl4, zl5]
        refine wpAnyZ_take (i := 13) (v := undef) [] rfl (by kernel_rfl) (by kernel_rfl) (by kernel_rfl) (by kernel_rfl) (fun _ _ _ h => h) (Or.inr ⟨by kernel_rfl, rfl⟩) hHeld ?_
        simp only [Act.put, zl0, zl1, zl2, zl3, zl4, zl5]
        refine wpAnyZ_take (i := 14) (v := undef) [] rfl (by kernel_rfl) (by kernel_rfl) (by kernel_rfl) (by kernel_rfl) (fun _ _ _ h => h) (Or.inr ⟨by kernel_rfl, rfl⟩) hHeld ?_
        simp only [Act.put, zl0, zl1, zl2, zl3, zl4, zl5]
        refine zt (i := 15) (v := .bool false) [] (fun w' hSw => ?_) hHeld ?_
        · clear hHeld hSw
          go_simp
        simp only [Act.put, zl0, zl1, zl2, zl3, zl4, zl5]
        refine zt (i := 16) (v := .bool false) [] (fun w' hSw => ?_) hHeld ?_
        · clear hHeld hSw
          go_simp
        simp only [Act.put, zl0, zl1, zl2, zl3, zl4, zl5]
        refine wpAnyZ_done (by kernel_rfl) ?_ _
        go_wp2_with fail
        have HB2 := Lib.hid (below_then HB.out hHeld)
        clear hHeld y0 y1 y2 y3 y4 hlY HB HY
        go_roundg (nL - (0 + 1))
        case measure => omega
        case rel => exact ⟨0 + 1, by go_num, by omega, by omega, HB2⟩
      · obtain ⟨bb2, off2, p, hA2, hlb, hgp, p0, p1, p2, p3, p4⟩ := rdLse_at (HX.out.keep HB.out) (show i - 1 < ls.length by rw [HN.out]; omega)
        injection hA2 with hA2
        injection hA2 with hA2 hA3
        subst hA2 hA3
        have hi1 : IntKind.i64.wrap ((i : Int) - 1) = ((i - 1 : Nat) : Int) := by rw [IntWalk.i64_in _ (by omega)]; omega
        have HFO : Hid (after p x) := Lib.hid (HO.out.next hgp (by rw [show i - 1 + 1 = i by omega]; exact HGX.out))
        clear hgp
        refine region_z (S := fun w' => Below w1.heap.size w1 w') [] (by kernel_rfl) ((Below.refl _ _).drew) (fun hHeld => ?_)
        refine zt (i := 0) (v := .agg #[.int .i64 x.num, .int .i64 x.chg, .int .i64 x.amp, .int .i64 x.frm, .int .i64 x.tck]) [] (fun w' hSw => ?_) hHeld ?_
        · have y0' := (hSw.cell (p := ⟨Y, 0, none⟩) hlY).trans y0
          have y1' := (hSw.cell (p := ⟨Y, 1, none⟩) hlY).trans y1
          have y2' := (hSw.cell (p := ⟨Y, 2, none⟩) hlY).trans y2
          have y3' := (hSw.cell (p := ⟨Y, 3, none⟩) hlY).trans y3
          have y4' := (hSw.cell (p := ⟨Y, 4, none⟩) hlY).trans y4
          have hlY' : Y < w'.heap.size := Nat.lt_of_lt_of_le hlY hSw.size
          clear hHeld hSw
          go_simp
        simp only [Act.put, zl0, zl1, zl2, zl3, zl4, zl5]
        refine zo 1 (fun K' hK => ?_)
        go_simp
        refine (leOne_ok x _ HOX.out).mono ?_
        rintro e w2 ⟨rfl, hb2⟩
        refine hK.out _ _ ?_ (fun hHeld' => ?_)
        · exact below_then hHeld hb2
        clear hK K' hHeld hb2
        have hHeld := hHeld'
        clear hHeld'
        try simp only [Act.put, zl0, zl1, zl2, zl3, zl4, zl5]
        refine zt (i := 2) (v := .bool false) [] (fun w' hSw => ?_) hHeld ?_
        · clear hHeld hSw
          go_simp
        simp only [Act.put, zl0, zl1, zl2, zl3, zl4, zl5]
        refine zt (i := 3) (v := .bool false) [] (fun w' hSw => ?_) hHeld ?_
        · clear hHeld hSw
          go_simp
        simp only [Act.put, zl0, zl1, zl2, zl3, zl4, zl5]
        refine zt (i := 4) (v := .int .i64 (i : Int)) [] (fun w' hSw => ?_) hHeld ?_
        · clear hHeld hSw
          go_simp
        simp only [Act.put, zl0, zl1, zl2, zl3, zl4, zl5]
        refine zt (i := 5) (v := .bool true) [] (fun w' hSw => ?_) hHeld ?_
        · clear hHeld hSw
          go_simp
          first | done | omega
        simp only [Act.put, zl0, zl1, zl2, zl3, zl4, zl5]
        refine zt (i := 6) (v := .bool true) [] (fun w' hSw => ?_) hHeld ?_
        · clear hHeld hSw
          go_simp
        simp only [Act.put, zl0, zl1, zl2, zl3, zl4, zl5]
        refine zt (i := 7) (v := .slice (some ⟨bb, off, none⟩) nL cL) [] (fun w' hSw => ?_) hHeld ?_
        · clear hHeld hSw
          go_simp
        simp only [Act.put, zl0, zl1, zl2, zl3, zl4, zl5]
        refine zt (i := 8) (v := .int .i64 (i : Int)) [] (fun w' hSw => ?_) hHeld ?_
        · clear hHeld hSw
          go_simp
        simp only [Act.put, zl0, zl1, zl2, zl3, zl4, zl5]
        refine zt (i := 9) (v := .int .i64 ((i - 1 : Nat) : Int)) [] (fun w' hSw => ?_) hHeld ?_
        · clear hHeld hSw
          go_simp
          first | done | exact hi1
        simp only [Act.put, zl0, zl1, zl2, zl3, zl4, zl5]
        refine zt (i := 10) (v := .pointer (some ⟨bb, off + (i - 1) * 5, none⟩)) [] (fun w' hSw => ?_) hHeld ?_
        · clear hHeld hSw
          go_simp
          first | done | omega
        simp only [Act.put, zl0, zl1, zl2, zl3, zl4, zl5]
        refine zt (i := 11) (v := .agg #[.int .i64 p.num, .int .i64 p.chg, .int .i64 p.amp, .int .i64 p.frm, .int .i64 p.tck]) [] (fun w' hSw => ?_) hHeld ?_
        · have p0' := (hSw.cell (p := ⟨bb, off + (i - 1) * 5, none⟩) hlb).trans p0
          have p1' := (hSw.cell (p := ⟨bb, off + (i - 1) * 5 + 1, none⟩) hlb).trans p1
          have p2' := (hSw.cell (p := ⟨bb, off + (i - 1) * 5 + 2, none⟩) hlb).trans p2
          have p3' := (hSw.cell (p := ⟨bb, off + (i - 1) * 5 + 3, none⟩) hlb).trans p3
          have p4' := (hSw.cell (p := ⟨bb, off + (i - 1) * 5 + 4, none⟩) hlb).trans p4
          have hlb' : bb < w'.heap.size := Nat.lt_of_lt_of_le hlb hSw.size
          clear hHeld hSw
          go_simp
        simp only [Act.put, zl0, zl1, zl2, zl3, zl4, zl5]
        refine zt (i := 12) (v := .agg #[.int .i64 x.num, .int .i64 x.chg, .int .i64 x.amp, .int .i64 x.frm, .int .i64 x.tck]) [] (fun w' hSw => ?_) hHeld ?_
        · have y0' := (hSw.cell (p := ⟨Y, 0, none⟩) hlY).trans y0
          have y1' := (hSw.cell (p := ⟨Y, 1, none⟩) hlY).trans y1
          have y2' := (hSw.cell (p := ⟨Y, 2, none⟩) hlY).trans y2
          have y3' := (hSw.cell (p := ⟨Y, 3, none⟩) hlY).trans y3
          have y4' := (hSw.cell (p := ⟨Y, 4, none⟩) hlY).trans y4
          have hlY' : Y < w'.heap.size := Nat.lt_of_lt_of_le hlY hSw.size
          clear hHeld hSw
          go_simp
        simp only [Act.put, zl0, zl1, zl2, zl3, zl4, zl5]
        refine zo 13 (fun K' hK => ?_)
        go_simp
        refine (leFollows_any p x _ HFO.out).mono ?_
        rintro e w3 ⟨rfl, hb3⟩
        refine hK.out _ _ ?_ (fun hHeld' => ?_)
        · exact below_then hHeld hb3
        clear hK K' hHeld hb3
        have hHeld := hHeld'
        clear hHeld'
        try simp only [Act.put, zl0, zl1, zl2, zl3, zl4, zl5]
        refine zt (i := 14) (v := .bool false) [] (fun w' hSw => ?_) hHeld ?_
        · clear hHeld hSw
          go_simp
        simp only [Act.put, zl0, zl1, zl2, zl3, zl4, zl5]
        refine zt (i := 15) (v := .bool false) [] (fun w' hSw => ?_) hHeld ?_
        · clear hHeld hSw
          go_simp
        simp only [Act.put, zl0, zl1, zl2, zl3, zl4, zl5]
        refine zt (i := 16) (v := .bool false) [] (fun w' hSw => ?_) hHeld ?_
        · clear hHeld hSw
          go_simp
        simp only [Act.put, zl0, zl1, zl2, zl3, zl4, zl5]
        refine wpAnyZ_done (by kernel_rfl) ?_ _
        go_wp2_with fail
        have HB2 := Lib.hid (below_then HB.out hHeld)
        clear hHeld y0 y1 y2 y3 y4 hlY HB HY p0 p1 p2 p3 p4 hlb
        go_roundg (nL - (i + 1))
        case measure => omega
        case rel => exact ⟨i + 1, by go_num, by omega, by omega, HB2⟩
    · have hltz : ¬ (i : Int) < (nL : Int) := by omega
      go_wp2_with fail
      go_ret
      exact ⟨rfl, HB.out⟩
end Go.Proofs.YtkbbapefgifagaaGreatDoor
/-
Two controllers: appends of leases.
-/
namespace Go.Proofs.YtkbbapefgifagaaGreatDoor
open Go.RowKit
set_option linter.unusedVariables false
set_option linter.unusedSimpArgs false
theorem appInfoLse : (Tryz.prog.info? 96).map (fun i => (i.zero, i.size, i.bytes)) = some (some (.agg #[.int .i64 0, .int .i64 0, .int .i64 0, .int .i64 0, .int .i64 0]), 5, 40) := by kernel_rfl
abbrev OwnLs (w : World) (base : Nat) (v : Value) (xs : List Lse) : Prop := OwnR 96 5 encLse w base v xs
theorem app_lse {w : World} {base : Nat} {v : Value} {xs : List Lse} (x : Lse) (h : OwnLs w base v xs) (hb : base ≤ w.heap.size) (hl : xs.length ≤ 100000) :
    Appends Tryz.prog (w.alloc (.cells #[.int .i64 x.num, .int .i64 x.chg, .int .i64 x.amp, .int .i64 x.frm, .int .i64 x.tck] 96)) 40 40 v (.slice (some ⟨w.heap.size, 0, none⟩) 1 1) ∧
    ∃ v' w1, appV Tryz.prog (w.alloc (.cells #[.int .i64 x.num, .int .i64 x.chg, .int .i64 x.amp, .int .i64 x.frm, .int .i64 x.tck] 96)) 40 40 v (.slice (some ⟨w.heap.size, 0, none⟩) 1 1) = v' ∧ appW Tryz.prog (w.alloc (.cells #[.int .i64 x.num, .int .i64 x.chg, .int .i64 x.amp, .int .i64 x.frm, .int .i64 x.tck] 96)) 40 40 v (.slice (some ⟨w.heap.size, 0, none⟩) 1 1) = w1 ∧ Hid (OwnLs w1 base v' (xs ++ [x])) ∧ Hid (Aside base v v' w w1) :=
  app_lit appInfoLse Tryz.underlying40 rfl (by omega) encLse_len encLse_one h hb rfl rfl (by omega) (by omega)
theorem mk_roomLs (n : Nat) (hb : n * 40 ≤ 140737488355328) : ∃ mc : Array Value, (∀ W : World, (Instr.makeSlice 40 (.int .i64 0) (.int .i64 n)).run Tryz.prog W = .ok (.slice (some ⟨W.heap.size, 0, none⟩) 0 n) (W.alloc (.cells mc 96))) ∧
    ∀ (W : World) (base : Nat), base ≤ W.heap.size → OwnLs (W.alloc (.cells mc 96)) base (.slice (some ⟨W.heap.size, 0, none⟩) 0 n) [] :=
  ⟨_, fun W => mk_noneR (P := Tryz.prog) 40 96 _ 5 40 Tryz.underlying40 appInfoLse n (by omega) (by omega) W, fun W base hW => OwnR.made W _ n (by unfold maxLen; omega) (size_madeCells _ _) hW⟩
theorem app_argLs {w : World} {base : Nat} {v : Value} {xs ys : List Lse} {A : Option Addr} {m c : Nat} (h : OwnLs w base v xs) (hy : Rd 5 encLse w A ys) (hym : ys.length = m) (hb : base ≤ w.heap.size) (hl : (xs.length + m) * 40 ≤ 140737488355328) :
    Appends Tryz.prog w 40 40 v (.slice A m c) ∧ ∃ v' w1, appV Tryz.prog w 40 40 v (.slice A m c) = v' ∧ appW Tryz.prog w 40 40 v (.slice A m c) = w1 ∧ Hid (OwnLs w1 base v' (xs ++ ys)) ∧ Hid (Aside base v v' w w1) :=
  app_argR appInfoLse Tryz.underlying40 rfl (by omega) encLse_len encLse_one h hy hym hb (by unfold maxLen; omega) hl
section
variable {W : World} {A : Option Addr} {js ys : List Lse} {N c m n : Nat} {mc lit : Array Value}
theorem rd_litA (hlit : lit = (ys.flatMap encLse).toArray) (W : World) : Rd 5 encLse (W.alloc (.cells lit 96)) (some ⟨W.heap.size, 0, none⟩) ys := by
  rw [hlit]
  exact (Own.new W 96 (ys.flatMap encLse).toArray undef).rd (by rw [List.size_toArray, flatR_len encLse_len]; exact Nat.le_refl _) encLse_len (fun k x hx j v hv => by
    show (ys.flatMap encLse).toArray[k * 5 + j]?.getD undef = v
    rw [List.getElem?_toArray, flatR_at encLse_len ys k j x v hx hv]; rfl)
theorem two_apps {W0 : World} {base L : Nat} {v0 : Value} (own : OwnLs W0 base v0 []) (hb : base ≤ W0.heap.size) (rd : Rd 5 encLse W0 A js) (hN : js.length = N) (rdl : Rd 5 encLse W0 (some ⟨L, 0, none⟩) ys) (hL : v0.ownBlock ≠ some L) (hm : ys.length = m) (hs : (N + m) * 40 ≤ 140737488355328) :
    Appends Tryz.prog W0 40 40 v0 (.slice A N c) ∧ ∃ v1 W1, appV Tryz.prog W0 40 40 v0 (.slice A N c) = v1 ∧ appW Tryz.prog W0 40 40 v0 (.slice A N c) = W1 ∧
      Appends Tryz.prog W1 40 40 v1 (.slice (some ⟨L, 0, none⟩) m m) ∧ ∃ v2 W2, appV Tryz.prog W1 40 40 v1 (.slice (some ⟨L, 0, none⟩) m m) = v2 ∧ appW Tryz.prog W1 40 40 v1 (.slice (some ⟨L, 0, none⟩) m m) = W2 ∧
        OwnLs W2 base v2 (js ++ ys) ∧ Below base W0 W1 ∧ Below base W0 W2 := by
  obtain ⟨p1, v1, W1, av1, aw1, o1, s1⟩ := app_argLs (c := c) own rd hN hb (by simp; omega)
  have rdl1 : Rd 5 encLse W1 (some ⟨L, 0, none⟩) ys := by
    intro h0
    obtain ⟨b, off, e, hlt, hc⟩ := rdl h0
    injection e with e
    injection e with e1 e2
    subst e1 e2
    exact ⟨_, _, rfl, Nat.lt_of_lt_of_le hlt s1.out.bel.size, fun k x hx j v hv => s1.out.cell (hc k x hx j v hv) hL⟩
  obtain ⟨p2, v2, W2, av2, aw2, o2, s2⟩ := app_argLs (c := m) o1.out rdl1 hm (Nat.le_trans hb s1.out.bel.size) (by rw [List.nil_append, hN]; exact hs)
  exact ⟨p1, v1, W1, av1, aw1, p2, v2, W2, av2, aw2, o2.out, s1.out.bel, s1.out.bel.trans s2.out.bel⟩
/-- The literal between. -/
theorem made_B (hown : ∀ (W : World) (base : Nat), base ≤ W.heap.size → OwnLs (W.alloc (.cells mc 96)) base (.slice (some ⟨W.heap.size, 0, none⟩) 0 n) []) (rd : Rd 5 encLse W A js) (hN : js.length = N) (hlit : lit = (ys.flatMap encLse).toArray) (hm : ys.length = m) (hs : (N + m) * 40 ≤ 140737488355328) :
    Appends Tryz.prog ((W.alloc (.cells mc 96)).alloc (.cells lit 96)).drew 40 40 (.slice (some ⟨W.heap.size, 0, none⟩) 0 n) (.slice A N c) ∧ ∃ v1 W1, appV Tryz.prog ((W.alloc (.cells mc 96)).alloc (.cells lit 96)).drew 40 40 (.slice (some ⟨W.heap.size, 0, none⟩) 0 n) (.slice A N c) = v1 ∧ appW Tryz.prog ((W.alloc (.cells mc 96)).alloc (.cells lit 96)).drew 40 40 (.slice (some ⟨W.heap.size, 0, none⟩) 0 n) (.slice A N c) = W1 ∧
      Appends Tryz.prog W1 40 40 v1 (.slice (some ⟨W.heap.size + 1, 0, none⟩) m m) ∧ ∃ v2 W2, appV Tryz.prog W1 40 40 v1 (.slice (some ⟨W.heap.size + 1, 0, none⟩) m m) = v2 ∧ appW Tryz.prog W1 40 40 v1 (.slice (some ⟨W.heap.size + 1, 0, none⟩) m m) = W2 ∧
        Hid (OwnLs W2 W.heap.size v2 (js ++ ys)) ∧ Hid (Below W.heap.size W W1) ∧ Hid (Below W.heap.size W W2) := by
  have ba : Below W.heap.size W (W.alloc (.cells mc 96)) := (Below.refl _ _).alloc (Nat.le_refl _) _
  have bb : Below W.heap.size W ((W.alloc (.cells mc 96)).alloc (.cells lit 96)).drew := (ba.alloc (by simp) _).drew
  have o : OwnLs ((W.alloc (.cells mc 96)).alloc (.cells lit 96)).drew W.heap.size (.slice (some ⟨W.heap.size, 0, none⟩) 0 n) [] := (hown W W.heap.size (Nat.le_refl _)).alloc _
  have rl : Rd 5 encLse ((W.alloc (.cells mc 96)).alloc (.cells lit 96)).drew (some ⟨W.heap.size + 1, 0, none⟩) ys := by
    have h := rd_litA hlit (W.alloc (.cells mc 96))
    rw [World.size_alloc] at h
    exact h
  obtain ⟨p1, v1, W1, av1, aw1, p2, v2, W2, av2, aw2, o2, x1, x2⟩ := two_apps (W0 := ((W.alloc (.cells mc 96)).alloc (.cells lit 96)).drew) (c := c) o bb.size (rd.keep bb) hN rl (by simp [Value.ownBlock]) hm hs
  exact ⟨p1, v1, W1, av1, aw1, p2, v2, W2, av2, aw2, Lib.hid o2, Lib.hid (bb.trans x1), Lib.hid (bb.trans x2)⟩
/-- The literal last. -/
theorem made_C (hown : ∀ (W : World) (base : Nat), base ≤ W.heap.size → OwnLs (W.alloc (.cells mc 96)) base (.slice (some ⟨W.heap.size, 0, none⟩) 0 n) []) (rd : Rd 5 encLse W A js) (hN : js.length = N) (hlit : lit = (ys.flatMap encLse).toArray) (hm : ys.length = m) (hs : (N + m) * 40 ≤ 140737488355328) :
    Appends Tryz.prog (W.alloc (.cells mc 96)).drew 40 40 (.slice (some ⟨W.heap.size, 0, none⟩) 0 n) (.slice A N c) ∧ ∃ v1 W1, appV Tryz.prog (W.alloc (.cells mc 96)).drew 40 40 (.slice (some ⟨W.heap.size, 0, none⟩) 0 n) (.slice A N c) = v1 ∧ appW Tryz.prog (W.alloc (.cells mc 96)).drew 40 40 (.slice (some ⟨W.heap.size, 0, none⟩) 0 n) (.slice A N c) = W1 ∧
      Appends Tryz.prog (W1.alloc (.cells lit 96)) 40 40 v1 (.slice (some ⟨W1.heap.size, 0, none⟩) m m) ∧ ∃ v2 W2, appV Tryz.prog (W1.alloc (.cells lit 96)) 40 40 v1 (.slice (some ⟨W1.heap.size, 0, none⟩) m m) = v2 ∧ appW Tryz.prog (W1.alloc (.cells lit 96)) 40 40 v1 (.slice (some ⟨W1.heap.size, 0, none⟩) m m) = W2 ∧
        Hid (OwnLs W2 W.heap.size v2 (js ++ ys)) ∧ Hid (Below W.heap.size W W1) ∧ Hid (Below W.heap.size W W2) := by
  have bb : Below W.heap.size W (W.alloc (.cells mc 96)).drew := ((Below.refl _ _).alloc (Nat.le_refl _) _).drew
  have o : OwnLs (W.alloc (.cells mc 96)).drew W.heap.size (.slice (some ⟨W.heap.size, 0, none⟩) 0 n) [] := hown W W.heap.size (Nat.le_refl _)
  obtain ⟨p1, v1, W1, av1, aw1, o1, s1⟩ := app_argLs (w := (W.alloc (.cells mc 96)).drew) (c := c) o (rd.keep bb) hN bb.size (by simp; omega)
  have hb1 := Nat.le_trans bb.size s1.out.bel.size
  have bc : Below W1.heap.size W1 (W1.alloc (.cells lit 96)) := (Below.refl _ _).alloc (Nat.le_refl _) _
  obtain ⟨p2, v2, W2, av2, aw2, o2, s2⟩ := app_argLs (w := W1.alloc (.cells lit 96)) (c := m) (o1.out.alloc _) (rd_litA hlit W1) hm (Nat.le_trans hb1 bc.size) (by rw [List.nil_append, hN]; exact hs)
  refine ⟨p1, v1, W1, av1, aw1, p2, v2, W2, av2, aw2, Lib.hid o2.out, Lib.hid (bb.trans s1.out.bel), Lib.hid ?_⟩
  exact ((bb.trans s1.out.bel).trans (bc.mono hb1)).trans s2.out.bel
end
end Go.Proofs.YtkbbapefgifagaaGreatDoor
/-
Two controllers: package lease: Grant, Expire.
-/
namespace Go.Proofs.YtkbbapefgifagaaGreatDoor
open Go.RowKit
set_option linter.unusedVariables false
set_option linter.unusedSimpArgs false
theorem ownLs_post {w : World} {base : Nat} {v : Value} {xs : List Lse} (h : OwnLs w base v xs) : ∃ a c, v = .slice a xs.length c ∧ Rd 5 encLse w a xs ∧ ∀ p, a = some p → base ≤ p.block := by
  obtain ⟨a, c, e, r⟩ := h.rd encLse_len
  refine ⟨a, c, e, r, fun p hp => ?_⟩
  rcases h.2 with ⟨h1, _⟩ | ⟨g, cap, cur, h1, hb, hg, _⟩
  · rw [h1, hp] at e; cases e
  · rw [h1] at e
    injection e with e
    rw [hp] at e
    injection e with e
    rw [← e]
    exact hb
/-- What Grant does. -/
def GrPost (ls : List Lse) (x : Lse) (nL : Nat) (w : World) (e : Ending) (w' : World) : Prop :=
  (ls.length < 64 ∧ ∃ A c, e = .returned (.tuple #[.slice A (nL + 1) c, .int .i64 0]) ∧ Rd 5 encLse w' A (ls ++ [x]) ∧ (∀ p, A = some p → w.heap.size ≤ p.block) ∧ Below w.heap.size w w') ∨
  (ls.length = 64 ∧ e = .returned (.tuple #[.slice none 0 0, .int .i64 10]) ∧ Below w.heap.size w w')
set_option maxRecDepth 100000 in
set_option maxHeartbeats 8000000 in
theorem leGrant_ok (aL : Option Addr) (nL cL : Nat) (ls : List Lse) (x : Lse) (w : World) (HX : Hid (Rd 5 encLse w aL ls)) (HN : Hid (ls.length = nL)) (HO : Hid (LsOk ls)) (HOX : Hid (LseOk x)) (HF : Hid (∀ y, ls[nL - 1]? = some y → after y x)) : Calls Tryz.prog 25 #[.slice aL nL cL, .agg #[.int .i64 x.num, .int .i64 x.chg, .int .i64 x.amp, .int .i64 x.frm, .int .i64 x.tck]] w (GrPost ls x nL w) := by
  have hn64 : nL ≤ 64 := by rw [← HN.out]; exact HO.out.len
  have HFULL : Hid (nL = 64 → ls.length = 64) := Lib.hid (fun h => by rw [HN.out]; exact h)
  obtain ⟨mc, hmk0, hown⟩ := mk_roomLs (nL + 1) (by omega)
  have hmk : ∀ W : World, (Instr.makeSlice 40 (.int .i64 0) (.int .i64 ((nL : Int) + 1))).run Tryz.prog W = .ok (.slice (some ⟨W.heap.size, 0, none⟩) 0 (nL + 1)) (W.alloc (.cells mc 96)) := hmk0
  obtain ⟨Wa, hWa⟩ : ∃ W, W = w.alloc (.cells #[.int .i64 x.num, .int .i64 x.chg, .int .i64 x.amp, .int .i64 x.frm, .int .i64 x.tck] 96) := ⟨_, rfl⟩
  have HB : Hid (Below w.heap.size w Wa) := Lib.hid (by rw [hWa]; exact (Below.refl _ w).alloc (Nat.le_refl _) _)
  have k0 : Wa.cell? ⟨w.heap.size, 0, none⟩ = some (.int .i64 x.num) := by rw [hWa]; go_simp
  have k1 : Wa.cell? ⟨w.heap.size, 1, none⟩ = some (.int .i64 x.chg) := by rw [hWa]; go_simp
  have k2 : Wa.cell? ⟨w.heap.size, 2, none⟩ = some (.int .i64 x.amp) := by rw [hWa]; go_simp
  have k3 : Wa.cell? ⟨w.heap.size, 3, none⟩ = some (.int .i64 x.frm) := by rw [hWa]; go_simp
  have k4 : Wa.cell? ⟨w.heap.size, 4, none⟩ = some (.int .i64 x.tck) := by rw [hWa]; go_simp
  have hlY : w.heap.size < Wa.heap.size := zb k0
  have HWa := Lib.hid hWa.symm
  clear hWa hmk0
  go_enter Tryz.func25, Tryz.ntmps25
  go_upto_region 1 with (fail)
  rw [HWa.out]
  clear HWa
  go_wp2_with fail
  refine (leValid_ok aL nL cL ls Wa (Lib.hid (HX.out.keep HB.out)) HN HO).mono ?_
  rintro e w2 ⟨rfl, hb2⟩
  have HB := Lib.hid (below_then HB.out hb2)
  replace k0 := (hb2.cell (p := ⟨w.heap.size, 0, none⟩) hlY).trans k0
  replace k1 := (hb2.cell (p := ⟨w.heap.size, 1, none⟩) hlY).trans k1
  replace k2 := (hb2.cell (p := ⟨w.heap.size, 2, none⟩) hlY).trans k2
  replace k3 := (hb2.cell (p := ⟨w.heap.size, 3, none⟩) hlY).trans k3
  replace k4 := (hb2.cell (p := ⟨w.heap.size, 4, none⟩) hlY).trans k4
  replace hlY : w.heap.size < w2.heap.size := Nat.lt_of_lt_of_le hlY hb2.size
  clear hb2
  go_wp2_with fail
  refine (leOne_ok x w2 HOX.out).mono ?_
  rintro e w3 ⟨rfl, hb3⟩
  have HB := Lib.hid (below_then HB.out hb3)
  replace k0 := (hb3.cell (p := ⟨w.heap.size, 0, none⟩) hlY).trans k0
  replace k1 := (hb3.cell (p := ⟨w.heap.size, 1, none⟩) hlY).trans k1
  replace k2 := (hb3.cell (p := ⟨w.heap.size, 2, none⟩) hlY).trans k2
  replace k3 := (hb3.cell (p := ⟨w.heap.size, 3, none⟩) hlY).trans k3
  replace k4 := (hb3.cell (p := ⟨w.heap.size, 4, none⟩) hlY).trans k4
  replace hlY : w.heap.size < w3.heap.size := Nat.lt_of_lt_of_le hlY hb3.size
  clear hb3
  go_upto_region 3 with (fail)
  obtain ⟨Wa, hwa⟩ : ∃ W, W = w3 := ⟨_, rfl⟩
  rw [← hwa] at HB k0 k1 k2 k3 k4 hlY ⊢
  clear hwa
  by_cases hz : ¬ 0 < nL
  · have hnz : ¬ (0 : Int) < (nL : Int) := by omega
    refine region_z (S := fun w' => Below Wa.heap.size Wa w') [] (by kernel_rfl) ((Below.refl _ _).drew) (fun hHeld => ?_)
    refine zt (i := 0) (v := .slice aL nL cL) [] (fun w' hSw => ?_) hHeld ?_
    · clear hHeld hSw
      go_simp
    simp only [Act.put, zl0, zl1, zl2, zl3, zl4, zl5]
    refine zt (i := 1) (v := .int .i64 (nL : Int)) [] (fun w' hSw => ?_) hHeld ?_
    · clear hHeld hSw
      go_simp
    simp only [Act.put, zl0, zl1, zl2, zl3, zl4, zl5]
    refine zt (i := 2) (v := .bool false) [] (fun w' hSw => ?_) hHeld ?_
    · clear hHeld hSw
      go_simp
      first | done | omega
    simp only [Act.put, zl0, zl1, zl2, zl3, zl4, zl5]
    refine zt (i := 3) (v := .bool false) [] (fun w' hSw => ?_) hHeld ?_
    · clear hHeld hSw
      go_simp
    simp only [Act.put, zl0, zl1, zl2, zl3, zl4, zl5]
    refine wpAnyZ_take (i := 4) (v := undef) [] rfl (by kernel_rfl) (by kernel_rfl) (by kernel_rfl) (by kernel_rfl) (fun _ _ _ h => h) (Or.inr ⟨by kernel_rfl, rfl⟩) hHeld ?_
    simp only [Act.put, zl0, zl1, zl2, zl3, zl4, zl5]
    refine wpAnyZ_take (i := 5) (v := undef) [] rfl (by kernel_rfl) (by kernel_rfl) (by kernel_rfl) (by kernel_rfl) (fun _ _ _ h => h) (Or.inr ⟨by kernel_rfl, rfl⟩) hHeld ?_
    simp only [Act.put, zl0, zl1, zl2, zl3, zl4, zl5]
    refine wpAnyZ_take (i := 6) (v := undef) [] rfl (by kernel_rfl) (by kernel_rfl) (by kernel_rfl) (by kernel_rfl) (fun _ _ _ h => h) (Or.inr ⟨by kernel_rfl, rfl⟩) hHeld ?_
    simp only [Act.put, zl0, zl1, zl2, zl3, zl4, zl5]
    refine wpAnyZ_take (i := 7) (v := undef) [] rfl (by kernel_rfl) (by kernel_rfl) (by kernel_rfl) (by kernel_rfl) (fun _ _ _ h => h) (Or.inr ⟨by kernel_rfl, rfl⟩) hHeld ?_
    simp only [Act.put, zl0, zl1, zl2, zl3, zl4, zl5]
    refine wpAnyZ_take (i := 8) (v := undef) [] rfl (by kernel_rfl) (by kernel_rfl) (by kernel_rfl) (by kernel_rfl) (fun _ _ _ h => h) (Or.inr ⟨by kernel_rfl, rfl⟩) hHeld ?_
    simp only [Act.put, zl0, zl1, zl2, zl3, zl4, zl5]
    refine wpAnyZ_take (i := 9) (v := undef) [] rfl (by kernel_rfl) (by kernel_rfl) (by kernel_rfl) (by kernel_rfl) (fun _ _ _ h => h) (Or.inr ⟨by kernel_rfl, rfl⟩) hHeld ?_
    simp only [Act.put, zl0, zl1, zl2, zl3, zl4, zl5]
    refine wpAnyZ_take (i := 10) (v := undef) [] rfl (by kernel_rfl) (by kernel_rfl) (by kernel_rfl) (by kernel_rfl) (fun _ _ _ h => h) (Or.inr ⟨by kernel_rfl, rfl⟩) hHeld ?_
    simp only [Act.put, zl0, zl1, zl2, zl3, zl4, zl5]
    refine wpAnyZ_take (i := 11) (v := undef) [] rfl (by kernel_rfl) (by kernel_rfl) (by kernel_rfl) (by kernel_rfl) (fun _ _ _ h => h) (Or.inr ⟨by kernel_rfl, rfl⟩) hHeld ?_
    simp only [Act.put, zl0, zl1, zl2, zl3, zl4, zl5]
    refine wpAnyZ_take (i := 12) (v := undef) [] rfl (by kernel_rfl) (by kernel_rfl) (by kernel_rfl) (by kernel_rfl) (fun _ _ _ h => h) (Or.inr ⟨by kernel_rfl, rfl⟩) hHeld ?_
    simp only [Act.put, zl0, zl1, zl2, zl3, zl4, zl5]
    refine zt (i := 13) (v := .bool false) [] (fun w' hSw => ?_) hHeld ?_
    · clear hHeld hSw
      go_simp
    simp only [Act.put, zl0, zl1, zl2, zl3, zl4, zl5]
    refine wpAnyZ_done (by kernel_rfl) ?_ _
    obtain ⟨Wb, hWb⟩ : ∃ W, W = Wa.drew := ⟨_, rfl⟩
    rw [← hWb] at hHeld ⊢
    clear hWb
    have HB := Lib.hid (below_then HB.out hHeld)
    replace k0 := (hHeld.cell (p := ⟨w.heap.size, 0, none⟩) hlY).trans k0
    replace k1 := (hHeld.cell (p := ⟨w.heap.size, 1, none⟩) hlY).trans k1
    replace k2 := (hHeld.cell (p := ⟨w.heap.size, 2, none⟩) hlY).trans k2
    replace k3 := (hHeld.cell (p := ⟨w.heap.size, 3, none⟩) hlY).trans k3
    replace k4 := (hHeld.cell (p := ⟨w.heap.size, 4, none⟩) hlY).trans k4
    replace hlY : w.heap.size < Wb.heap.size := Nat.lt_of_lt_of_le hlY hHeld.size
    clear hHeld
    by_cases h64 : nL = 64
    · subst h64
      go_wp2_with fail
      go_ret2
      exact .inr ⟨HN.out, rfl, HB.out⟩
    · have HLT : Hid (ls.length < 64) := Lib.hid (by have := HN.out; omega)
      have hnz : ¬ (nL : Int) = 64 := by omega
      have hnz2 : ((nL : Int) == 64) = false := by simpa using hnz
      obtain ⟨pB1, vB1, WB1, pB2, pB3, pB4, vB2, WB2, pB5, pB6, oB, bB1, bB2⟩ := made_B (W := Wb) (c := cL) (ys := [x]) (m := 1) (lit := #[.int .i64 x.num, .int .i64 x.chg, .int .i64 x.amp, .int .i64 x.frm, .int .i64 x.tck]) hown (HX.out.keep HB.out) HN.out rfl rfl (by omega)
      obtain ⟨pC1, vC1, WC1, pC2, pC3, pC4, vC2, WC2, pC5, pC6, oC, bC1, bC2⟩ := made_C (W := Wb) (c := cL) (ys := [x]) (m := 1) (lit := #[.int .i64 x.num, .int .i64 x.chg, .int .i64 x.amp, .int .i64 x.frm, .int .i64 x.tck]) hown (HX.out.keep HB.out) HN.out rfl rfl (by omega)
      have bm : Below Wb.heap.size Wb (Wb.alloc (.cells mc 96)) := (Below.refl _ _).alloc (Nat.le_refl _) _
      go_wp2_with fail
      refine region_z (S := fun w' => Below Wb.heap.size Wb w') [] (by kernel_rfl) bm.drew (fun hHeld => ?_)
      refine wpAnyZ_take (i := 0) (v := .slice (some ⟨Wb.heap.size, 0, none⟩) 0 (nL + 1)) [] rfl (by kernel_rfl) (by kernel_rfl) (by kernel_rfl) (by kernel_rfl) (fun _ _ _ h => h) (Or.inl ⟨by rfl, fun w' hSw => ?_⟩) hHeld ?_
      · clear hHeld
        go_simp
      simp only [Act.put, zl3, zl4, zl5]
      refine wpAnyZ_take (i := 1) (v := .slice aL nL cL) [] rfl (by kernel_rfl) (by kernel_rfl) (by kernel_rfl) (by kernel_rfl) (fun _ _ _ h => h) (Or.inl ⟨by rfl, fun w' hSw => ?_⟩) hHeld ?_
      · clear hHeld
        go_simp
      simp only [Act.put, zl3, zl4, zl5]
      refine wpAnyZ_take (i := 3) (v := .agg #[.int .i64 x.num, .int .i64 x.chg, .int .i64 x.amp, .int .i64 x.frm, .int .i64 x.tck]) [] rfl (by kernel_rfl) (by kernel_rfl) (by kernel_rfl) (by kernel_rfl) (fun _ _ _ h => h) (Or.inl ⟨by rfl, fun w' hSw => ?_⟩) hHeld ?_
      · clear hHeld
        have s0 := (hSw.cell (p := ⟨w.heap.size, 0, none⟩) hlY).trans k0
        have s1 := (hSw.cell (p := ⟨w.heap.size, 1, none⟩) hlY).trans k1
        have s2 := (hSw.cell (p := ⟨w.heap.size, 2, none⟩) hlY).trans k2
        have s3 := (hSw.cell (p := ⟨w.heap.size, 3, none⟩) hlY).trans k3
        have s4 := (hSw.cell (p := ⟨w.heap.size, 4, none⟩) hlY).trans k4
        have hlY' : w.heap.size < w'.heap.size := Nat.lt_of_lt_of_le hlY hSw.size
        clear hSw
        go_simp
      simp only [Act.put, zl3, zl4, zl5]
      refine wpAnyZ_two (i := 2) (k := 4) (by kernel_rfl) rfl rfl (fun K' hK => ?_) (fun K' hK => ?_)
      · rw [if_pos (by rfl)]
        refine append_go rfl rfl pC1 pC2 pC3 ?_
        refine hK.out _ _ ?_ (fun hHeld => ?_)
        · exact bC1.out
        clear hK K'
        try simp only [Act.put, zl3, zl4, zl5]
        refine zo 4 (fun K' hK => ?_)
        go_simp
        refine hK.out _ _ ?_ (fun hHeld => ?_)
        · exact hHeld.alloc hHeld.size _
        clear hK K'
        try simp only [Act.put, zl3, zl4, zl5]
        refine zo 5 (fun K' hK => ?_)
        rw [if_pos (by rfl)]
        refine append_go rfl rfl pC4 pC5 pC6 ?_
        refine hK.out _ _ ?_ (fun hHeld => ?_)
        · exact bC2.out
        clear hK K'
        try simp only [Act.put, zl3, zl4, zl5]
        refine zo 6 (fun K' hK => ?_)
        go_simp
        refine hK.out _ _ ?_ (fun hHeld => ?_)
        · exact hHeld
        clear hK K'
        try simp only [Act.put, zl3, zl4, zl5]
        refine zo 7 (fun K' hK => ?_)
        go_simp
        refine hK.out _ _ ?_ (fun hHeld => ?_)
        · exact hHeld
        clear hK K'
        try simp only [Act.put, zl3, zl4, zl5]
        refine wpAnyZ_done (by kernel_rfl) ?_ _
        clear hHeld
        go_wp2_with fail
        go_ret2
        obtain ⟨a1, d1, e1, r1, f1⟩ := ownLs_post oC.out
        rw [List.length_append, HN.out] at e1
        exact .inl ⟨HLT.out, a1, d1, by rw [e1]; rfl, r1, fun p hp => Nat.le_trans HB.out.size (f1 p hp), below_then HB.out bC2.out⟩
      · go_simp
        refine hK.out _ _ ?_ (fun hHeld => ?_)
        · exact hHeld.alloc hHeld.size _
        clear hK K'
        try simp only [Act.put, zl3, zl4, zl5]
        refine zo 2 (fun K' hK => ?_)
        rw [if_pos (by rfl)]
        refine append_go rfl rfl pB1 pB2 pB3 ?_
        refine hK.out _ _ ?_ (fun hHeld => ?_)
        · exact bB1.out
        clear hK K'
        try simp only [Act.put, zl3, zl4, zl5]
        refine zo 5 (fun K' hK => ?_)
        rw [if_pos (by rfl)]
        refine append_go rfl rfl pB4 pB5 pB6 ?_
        refine hK.out _ _ ?_ (fun hHeld => ?_)
        · exact bB2.out
        clear hK K'
        try simp only [Act.put, zl3, zl4, zl5]
        refine zo 6 (fun K' hK => ?_)
        go_simp
        refine hK.out _ _ ?_ (fun hHeld => ?_)
        · exact hHeld
        clear hK K'
        try simp only [Act.put, zl3, zl4, zl5]
        refine zo 7 (fun K' hK => ?_)
        go_simp
        refine hK.out _ _ ?_ (fun hHeld => ?_)
        · exact hHeld
        clear hK K'
        try simp only [Act.put, zl3, zl4, zl5]
        refine wpAnyZ_done (by kernel_rfl) ?_ _
        clear hHeld
        go_wp2_with fail
        go_ret2
        obtain ⟨a1, d1, e1, r1, f1⟩ := ownLs_post oB.out
        rw [List.length_append, HN.out] at e1
        exact .inl ⟨HLT.out, a1, d1, by rw [e1]; rfl, r1, fun p hp => Nat.le_trans HB.out.size (f1 p hp), below_then HB.out bB2.out⟩
  · obtain ⟨bb, off, p, hA2, hlb, hgp, p0, p1, p2, p3, p4⟩ := rdLse_at (HX.out.keep HB.out) (show nL - 1 < ls.length by rw [HN.out]; omega)
    have HFO : Hid (after p x) := Lib.hid (HF.out p hgp)
    subst hA2
    clear hgp
    have hi1 : IntKind.i64.wrap ((nL : Int) - 1) = ((nL - 1 : Nat) : Int) := by rw [IntWalk.i64_in _ (by omega)]; omega
    have hnp : (0 : Int) < (nL : Int) := by omega
    refine region_z (S := fun w' => Below Wa.heap.size Wa w') [] (by kernel_rfl) ((Below.refl _ _).drew) (fun hHeld => ?_)
    refine zt (i := 0) (v := .slice (some ⟨bb, off, none⟩) nL cL) [] (fun w' hSw => ?_) hHeld ?_
    · clear hHeld hSw
      go_simp
    simp only [Act.put, zl0, zl1, zl2, zl3, zl4, zl5]
    refine zt (i := 1) (v := .int .i64 (nL : Int)) [] (fun w' hSw => ?_) hHeld ?_
    · clear hHeld hSw
      go_simp
    simp only [Act.put, zl0, zl1, zl2, zl3, zl4, zl5]
    refine zt (i := 2) (v := .bool true) [] (fun w' hSw => ?_) hHeld ?_
    · clear hHeld hSw
      go_simp
      first | done | omega
    simp only [Act.put, zl0, zl1, zl2, zl3, zl4, zl5]
    refine zt (i := 3) (v := .bool true) [] (fun w' hSw => ?_) hHeld ?_
    · clear hHeld hSw
      go_simp
    simp only [Act.put, zl0, zl1, zl2, zl3, zl4, zl5]
    refine zt (i := 4) (v := .slice (some ⟨bb, off, none⟩) nL cL) [] (fun w' hSw => ?_) hHeld ?_
    · clear hHeld hSw
      go_simp
    simp only [Act.put, zl0, zl1, zl2, zl3, zl4, zl5]
    refine zt (i := 5) (v := .slice (some ⟨bb, off, none⟩) nL cL) [] (fun w' hSw => ?_) hHeld ?_
    · clear hHeld hSw
      go_simp
    simp only [Act.put, zl0, zl1, zl2, zl3, zl4, zl5]
    refine zt (i := 6) (v := .int .i64 (nL : Int)) [] (fun w' hSw => ?_) hHeld ?_
    · clear hHeld hSw
      go_simp
    simp only [Act.put, zl0, zl1, zl2, zl3, zl4, zl5]
    refine zt (i := 7) (v := .int .i64 ((nL - 1 : Nat) : Int)) [] (fun w' hSw => ?_) hHeld ?_
    · clear hHeld hSw
      go_simp
      first | done | exact hi1
    simp only [Act.put, zl0, zl1, zl2, zl3, zl4, zl5]
    refine zt (i := 8) (v := .pointer (some ⟨bb, off + (nL - 1) * 5, none⟩)) [] (fun w' hSw => ?_) hHeld ?_
    · clear hHeld hSw
      go_simp
      first | done | omega
    simp only [Act.put, zl0, zl1, zl2, zl3, zl4, zl5]
    refine zt (i := 9) (v := .agg #[.int .i64 p.num, .int .i64 p.chg, .int .i64 p.amp, .int .i64 p.frm, .int .i64 p.tck]) [] (fun w' hSw => ?_) hHeld ?_
    · have p0' := (hSw.cell (p := ⟨bb, off + (nL - 1) * 5, none⟩) hlb).trans p0
      have p1' := (hSw.cell (p := ⟨bb, off + (nL - 1) * 5 + 1, none⟩) hlb).trans p1
      have p2' := (hSw.cell (p := ⟨bb, off + (nL - 1) * 5 + 2, none⟩) hlb).trans p2
      have p3' := (hSw.cell (p := ⟨bb, off + (nL - 1) * 5 + 3, none⟩) hlb).trans p3
      have p4' := (hSw.cell (p := ⟨bb, off + (nL - 1) * 5 + 4, none⟩) hlb).trans p4
      have hlb' : bb < w'.heap.size := Nat.lt_of_lt_of_le hlb hSw.size
      clear hHeld hSw
      go_simp
    simp only [Act.put, zl0, zl1, zl2, zl3, zl4, zl5]
    refine zt (i := 10) (v := .agg #[.int .i64 x.num, .int .i64 x.chg, .int .i64 x.amp, .int .i64 x.frm, .int .i64 x.tck]) [] (fun w' hSw => ?_) hHeld ?_
    · have y0' := (hSw.cell (p := ⟨w.heap.size, 0, none⟩) hlY).trans k0
      have y1' := (hSw.cell (p := ⟨w.heap.size, 1, none⟩) hlY).trans k1
      have y2' := (hSw.cell (p := ⟨w.heap.size, 2, none⟩) hlY).trans k2
      have y3' := (hSw.cell (p := ⟨w.heap.size, 3, none⟩) hlY).trans k3
      have y4' := (hSw.cell (p := ⟨w.heap.size, 4, none⟩) hlY).trans k4
      have hlY' : w.heap.size < w'.heap.size := Nat.lt_of_lt_of_le hlY hSw.size
      clear hHeld hSw
      go_simp
    simp only [Act.put, zl0, zl1, zl2, zl3, zl4, zl5]
    refine zo 11 (fun K' hK => ?_)
    go_simp
    refine (leFollows_any p x _ HFO.out).mono ?_
    rintro e w4 ⟨rfl, hb4⟩
    refine hK.out _ _ ?_ (fun hHeld' => ?_)
    · exact below_then hHeld hb4
    clear hK K' hHeld hb4
    have hHeld := hHeld'
    clear hHeld'
    try simp only [Act.put, zl0, zl1, zl2, zl3, zl4, zl5]
    refine zt (i := 12) (v := .bool false) [] (fun w' hSw => ?_) hHeld ?_
    · clear hHeld hSw
      go_simp
    simp only [Act.put, zl0, zl1, zl2, zl3, zl4, zl5]
    refine zt (i := 13) (v := .bool false) [] (fun w' hSw => ?_) hHeld ?_
    · clear hHeld hSw
      go_simp
    simp only [Act.put, zl0, zl1, zl2, zl3, zl4, zl5]
    refine wpAnyZ_done (by kernel_rfl) ?_ _
    clear p0 p1 p2 p3 p4 hlb
    obtain ⟨Wb, hWb⟩ : ∃ W, W = w4 := ⟨_, rfl⟩
    rw [← hWb] at hHeld ⊢
    clear hWb
    have HB := Lib.hid (below_then HB.out hHeld)
    replace k0 := (hHeld.cell (p := ⟨w.heap.size, 0, none⟩) hlY).trans k0
    replace k1 := (hHeld.cell (p := ⟨w.heap.size, 1, none⟩) hlY).trans k1
    replace k2 := (hHeld.cell (p := ⟨w.heap.size, 2, none⟩) hlY).trans k2
    replace k3 := (hHeld.cell (p := ⟨w.heap.size, 3, none⟩) hlY).trans k3
    replace k4 := (hHeld.cell (p := ⟨w.heap.size, 4, none⟩) hlY).trans k4
    replace hlY : w.heap.size < Wb.heap.size := Nat.lt_of_lt_of_le hlY hHeld.size
    clear hHeld
    by_cases h64 : nL = 64
    · subst h64
      go_wp2_with fail
      go_ret2
      exact .inr ⟨HN.out, rfl, HB.out⟩
    · have HLT : Hid (ls.length < 64) := Lib.hid (by have := HN.out; omega)
      have hnz : ¬ (nL : Int) = 64 := by omega
      have hnz2 : ((nL : Int) == 64) = false := by simpa using hnz
      obtain ⟨pB1, vB1, WB1, pB2, pB3, pB4, vB2, WB2, pB5, pB6, oB, bB1, bB2⟩ := made_B (W := Wb) (c := cL) (ys := [x]) (m := 1) (lit := #[.int .i64 x.num, .int .i64 x.chg, .int .i64 x.amp, .int .i64 x.frm, .int .i64 x.tck]) hown (HX.out.keep HB.out) HN.out rfl rfl (by omega)
      obtain ⟨pC1, vC1, WC1, pC2, pC3, pC4, vC2, WC2, pC5, pC6, oC, bC1, bC2⟩ := made_C (W := Wb) (c := cL) (ys := [x]) (m := 1) (lit := #[.int .i64 x.num, .int .i64 x.chg, .int .i64 x.amp, .int .i64 x.frm, .int .i64 x.tck]) hown (HX.out.keep HB.out) HN.out rfl rfl (by omega)
      have bm : Below Wb.heap.size Wb (Wb.alloc (.cells mc 96)) := (Below.refl _ _).alloc (Nat.le_refl _) _
      go_wp2_with fail
      refine region_z (S := fun w' => Below Wb.heap.size Wb w') [] (by kernel_rfl) bm.drew (fun hHeld => ?_)
      refine wpAnyZ_take (i := 0) (v := .slice (some ⟨Wb.heap.size, 0, none⟩) 0 (nL + 1)) [] rfl (by kernel_rfl) (by kernel_rfl) (by kernel_rfl) (by kernel_rfl) (fun _ _ _ h => h) (Or.inl ⟨by rfl, fun w' hSw => ?_⟩) hHeld ?_
      · clear hHeld
        go_simp
      simp only [Act.put, zl3, zl4, zl5]
      refine wpAnyZ_take (i := 1) (v := .slice (some ⟨bb, off, none⟩) nL cL) [] rfl (by kernel_rfl) (by kernel_rfl) (by kernel_rfl) (by kernel_rfl) (fun _ _ _ h => h) (Or.inl ⟨by rfl, fun w' hSw => ?_⟩) hHeld ?_
      · clear hHeld
        go_simp
      simp only [Act.put, zl3, zl4, zl5]
      refine wpAnyZ_take (i := 3) (v := .agg #[.int .i64 x.num, .int .i64 x.chg, .int .i64 x.amp, .int .i64 x.frm, .int .i64 x.tck]) [] rfl (by kernel_rfl) (by kernel_rfl) (by kernel_rfl) (by kernel_rfl) (fun _ _ _ h => h) (Or.inl ⟨by rfl, fun w' hSw => ?_⟩) hHeld ?_
      · clear hHeld
        have s0 := (hSw.cell (p := ⟨w.heap.size, 0, none⟩) hlY).trans k0
        have s1 := (hSw.cell (p := ⟨w.heap.size, 1, none⟩) hlY).trans k1
        have s2 := (hSw.cell (p := ⟨w.heap.size, 2, none⟩) hlY).trans k2
        have s3 := (hSw.cell (p := ⟨w.heap.size, 3, none⟩) hlY).trans k3
        have s4 := (hSw.cell (p := ⟨w.heap.size, 4, none⟩) hlY).trans k4
        have hlY' : w.heap.size < w'.heap.size := Nat.lt_of_lt_of_le hlY hSw.size
        clear hSw
        go_simp
      simp only [Act.put, zl3, zl4, zl5]
      refine wpAnyZ_two (i := 2) (k := 4) (by kernel_rfl) rfl rfl (fun K' hK => ?_) (fun K' hK => ?_)
      · rw [if_pos (by rfl)]
        refine append_go rfl rfl pC1 pC2 pC3 ?_
        refine hK.out _ _ ?_ (fun hHeld => ?_)
        · exact bC1.out
        clear hK K'
        try simp only [Act.put, zl3, zl4, zl5]
        refine zo 4 (fun K' hK => ?_)
        go_simp
        refine hK.out _ _ ?_ (fun hHeld => ?_)
        · exact hHeld.alloc hHeld.size _
        clear hK K'
        try simp only [Act.put, zl3, zl4, zl5]
        refine zo 5 (fun K' hK => ?_)
        rw [if_pos (by rfl)]
        refine append_go rfl rfl pC4 pC5 pC6 ?_
        refine hK.out _ _ ?_ (fun hHeld => ?_)
        · exact bC2.out
        clear hK K'
        try simp only [Act.put, zl3, zl4, zl5]
        refine zo 6 (fun K' hK => ?_)
        go_simp
        refine hK.out _ _ ?_ (fun hHeld => ?_)
        · exact hHeld
        clear hK K'
        try simp only [Act.put, zl3, zl4, zl5]
        refine zo 7 (fun K' hK => ?_)
        go_simp
        refine hK.out _ _ ?_ (fun hHeld => ?_)
        · exact hHeld
        clear hK K'
        try simp only [Act.put, zl3, zl4, zl5]
        refine wpAnyZ_done (by kernel_rfl) ?_ _
        clear hHeld
        go_wp2_with fail
        go_ret2
        obtain ⟨a1, d1, e1, r1, f1⟩ := ownLs_post oC.out
        rw [List.length_append, HN.out] at e1
        exact .inl ⟨HLT.out, a1, d1, by rw [e1]; rfl, r1, fun p hp => Nat.le_trans HB.out.size (f1 p hp), below_then HB.out bC2.out⟩
      · go_simp
        refine hK.out _ _ ?_ (fun hHeld => ?_)
        · exact hHeld.alloc hHeld.size _
        clear hK K'
        try simp only [Act.put, zl3, zl4, zl5]
        refine zo 2 (fun K' hK => ?_)
        rw [if_pos (by rfl)]
        refine append_go rfl rfl pB1 pB2 pB3 ?_
        refine hK.out _ _ ?_ (fun hHeld => ?_)
        · exact bB1.out
        clear hK K'
        try simp only [Act.put, zl3, zl4, zl5]
        refine zo 5 (fun K' hK => ?_)
        rw [if_pos (by rfl)]
        refine append_go rfl rfl pB4 pB5 pB6 ?_
        refine hK.out _ _ ?_ (fun hHeld => ?_)
        · exact bB2.out
        clear hK K'
        try simp only [Act.put, zl3, zl4, zl5]
        refine zo 6 (fun K' hK => ?_)
        go_simp
        refine hK.out _ _ ?_ (fun hHeld => ?_)
        · exact hHeld
        clear hK K'
        try simp only [Act.put, zl3, zl4, zl5]
        refine zo 7 (fun K' hK => ?_)
        go_simp
        refine hK.out _ _ ?_ (fun hHeld => ?_)
        · exact hHeld
        clear hK K'
        try simp only [Act.put, zl3, zl4, zl5]
        refine wpAnyZ_done (by kernel_rfl) ?_ _
        clear hHeld
        go_wp2_with fail
        go_ret2
        obtain ⟨a1, d1, e1, r1, f1⟩ := ownLs_post oB.out
        rw [List.length_append, HN.out] at e1
        exact .inl ⟨HLT.out, a1, d1, by rw [e1]; rfl, r1, fun p hp => Nat.le_trans HB.out.size (f1 p hp), below_then HB.out bB2.out⟩
/-- What remains alive. -/
def exL (tick : Int) (ls : List Lse) : List Lse := ls.filter (fun x => decide (tick < x.frm + 23))
end Go.Proofs.YtkbbapefgifagaaGreatDoor
/-
Two controllers: package lease: Expire.
-/
namespace Go.Proofs.YtkbbapefgifagaaGreatDoor
open Go.RowKit
set_option linter.unusedVariables false
set_option linter.unusedSimpArgs false
theorem exL_no {tick : Int} {ls : List Lse} {k : Nat} {x : Lse} (hx : ls[k]? = some x) (h : ¬ tick < x.frm + 23) : exL tick (ls.take (k + 1)) = exL tick (ls.take k) := by
  unfold exL
  rw [take_snoc hx, List.filter_append]
  simp [h]
theorem exL_yes {tick : Int} {ls : List Lse} {k : Nat} {x : Lse} (hx : ls[k]? = some x) (h : tick < x.frm + 23) : exL tick (ls.take (k + 1)) = exL tick (ls.take k) ++ [x] := by
  unfold exL
  rw [take_snoc hx, List.filter_append]
  simp [h]
theorem exL_len {tick : Int} {ls : List Lse} {k : Nat} : (exL tick (ls.take k)).length ≤ ls.length := by
  unfold exL
  exact Nat.le_trans (List.length_filter_le _ _) (by rw [List.length_take]; omega)
/-- What Expire does. -/
def ExPost (tick : Int) (ls : List Lse) (w : World) (e : Ending) (w' : World) : Prop :=
  ∃ A c, e = .returned (.tuple #[.slice A (exL tick ls).length c, .int .i64 0]) ∧ Rd 5 encLse w' A (exL tick ls) ∧ (∀ p, A = some p → w.heap.size ≤ p.block) ∧ Below w.heap.size w w'
set_option maxRecDepth 100000 in
set_option maxHeartbeats 8000000 in
theorem leExpire_ok (aL : Option Addr) (nL cL : Nat) (ls : List Lse) (tick : Int) (w : World) (HX : Hid (Rd 5 encLse w aL ls)) (HN : Hid (ls.length = nL)) (HO : Hid (LsOk ls)) (ht0 : 0 ≤ tick) (ht1 : tick ≤ 1100000) : Calls Tryz.prog 23 #[.slice aL nL cL, .int .i64 tick] w (ExPost tick ls w) := by
  have hn64 : nL ≤ 64 := by rw [← HN.out]; exact HO.out.len
  go_enter Tryz.func23, Tryz.ntmps23
  go_wp2_with fail
  refine (leValid_ok aL nL cL ls w HX HN HO).mono ?_
  rintro e w1 ⟨rfl, hb1⟩
  have HB := Lib.hid hb1
  clear hb1
  go_wp2_with (go_at_call 32; refine (leIn_ok _ _ _ _ (by omega) (by omega)).mono ?_; rintro e w' ⟨rfl, hw⟩; have hw := hw.symm; subst hw)
  have HO0 : Hid (OwnLs w1 w.heap.size (.slice none 0 0) (exL tick (ls.take 0))) := Lib.hid (OwnR.nil _ _)
  go_loopg [6, 19] nL (fun g1 v6 v19 wr => ∃ (i : Nat) (va : Option Addr) (vn vc : Nat), v6 = .slice va vn vc ∧ v19 = .int .i64 i ∧ i ≤ nL ∧ nL - i ≤ g1 ∧ Hid (OwnLs wr w.heap.size (.slice va vn vc) (exL tick (ls.take i))) ∧ Hid (Below w.heap.size w wr))
  case atStart => exact ⟨0, none, 0, 0, rfl, by go_num, by omega, by omega, HO0, HB⟩
  case round =>
    clear HO0 HB
    obtain ⟨i, va, vn, vc, rfl, rfl, hi, hg1, HW, HB⟩ := hrel
    by_cases hlt : i < nL
    · have hltz : (i : Int) < (nL : Int) := by omega
      obtain ⟨bb, off, x, hA, hlb0, hgx, c0, c1, c2, c3, c4⟩ := rdLse_at (HX.out.keep HB.out) (show i < ls.length by rw [HN.out]; exact hlt)
      have HOX := Lib.hid (HO.out.at_ hgx)
      obtain ⟨w2, hw1⟩ : ∃ W, W = wr.alloc (.cells #[.int .i64 x.num, .int .i64 x.chg, .int .i64 x.amp, .int .i64 x.frm, .int .i64 x.tck] 96) := ⟨_, rfl⟩
      obtain ⟨Y, hY⟩ : ∃ Y, Y = wr.heap.size := ⟨_, rfl⟩
      have hb1 : Below wr.heap.size wr w2 := by rw [hw1]; exact (Below.refl _ _).alloc (Nat.le_refl _) _
      have HY : Hid (LseM wr w2 Y x) := Lib.hid (by rw [hw1, hY]; exact LseM.box (Below.refl _ _))
      have HB := Lib.hid (below_then HB.out hb1)
      have HW1 := Lib.hid (And.intro hw1.symm hY.symm)
      clear hw1 hY hb1
      have HW := Lib.hid (HW.out.keep (HY.out.bel))
      have HGX := Lib.hid hgx
      have hln : (exL tick (ls.take i)).length ≤ 100000 := by have := exL_len (tick := tick) (ls := ls) (k := i); rw [HN.out] at this; omega
      have HLN := Lib.hid hln
      subst hA
      clear hgx hln
      go_upto_region 7 with (fail)
      rw [HW1.out.1, HW1.out.2]
      clear HW1 c0 c1 c2 c3 c4
      obtain ⟨y0, y1, y2, y3, y4⟩ : w2.cell? ⟨Y, 0, none⟩ = some (.int .i64 x.num) ∧ w2.cell? ⟨Y, 1, none⟩ = some (.int .i64 x.chg) ∧ w2.cell? ⟨Y, 2, none⟩ = some (.int .i64 x.amp) ∧ w2.cell? ⟨Y, 3, none⟩ = some (.int .i64 x.frm) ∧ w2.cell? ⟨Y, 4, none⟩ = some (.int .i64 x.tck) := ⟨HY.out.k0, HY.out.k1, HY.out.k2, HY.out.k3, HY.out.k4⟩
      have hlY : Y < w2.heap.size := World.block_lt_of_cell? w2 _ y0
      go_wp2_with fail
      refine (leEnd_any x w2 HOX.out).mono ?_
      rintro e w3 ⟨rfl, hb3⟩
      have HY := Lib.hid (HY.out.keep hb3)
      have HB := Lib.hid (below_then HB.out hb3)
      have HW := Lib.hid (HW.out.keep hb3)
      clear hb3 y0 y1 y2 y3 y4 hlY
      by_cases he : tick < x.frm + 23
      · have HEX := Lib.hid (exL_yes HGX.out he)
        obtain ⟨y0, y1, y2, y3, y4⟩ : w3.cell? ⟨Y, 0, none⟩ = some (.int .i64 x.num) ∧ w3.cell? ⟨Y, 1, none⟩ = some (.int .i64 x.chg) ∧ w3.cell? ⟨Y, 2, none⟩ = some (.int .i64 x.amp) ∧ w3.cell? ⟨Y, 3, none⟩ = some (.int .i64 x.frm) ∧ w3.cell? ⟨Y, 4, none⟩ = some (.int .i64 x.tck) := ⟨HY.out.k0, HY.out.k1, HY.out.k2, HY.out.k3, HY.out.k4⟩
        have hlY : Y < w3.heap.size := World.block_lt_of_cell? w3 _ y0
        obtain ⟨ap, v', w4, av, aw, HW4, HA4⟩ := app_lse x HW.out HB.out.size HLN.out
        obtain ⟨va', vc', hv'⟩ := HW4.out.shape
        obtain ⟨vn', hvn'⟩ : ∃ n, n = (exL tick (ls.take i) ++ [x]).length := ⟨_, rfl⟩
        rw [← hvn'] at hv'
        clear hvn'
        subst hv'
        have HB4 : Hid (Below w.heap.size w w4) := Lib.hid (HB.out.trans HA4.out.bel)
        have HW5 : Hid (OwnLs w4 w.heap.size (.slice va' vn' vc') (exL tick (ls.take (i + 1)))) := Lib.hid (by rw [HEX.out]; exact HW4.out)
        clear HW4 HA4 HW HB HY HEX
        go_wp2_with fail
        go_roundg (nL - (i + 1))
        case measure => omega
        case rel => exact ⟨i + 1, va', vn', vc', rfl, by go_num, by omega, by omega, HW5, HB4⟩
      · have HW5 : Hid (OwnLs w3 w.heap.size (.slice va vn vc) (exL tick (ls.take (i + 1)))) := Lib.hid (by rw [exL_no HGX.out he]; exact HW.out)
        clear HW HY
        go_wp2_with fail
        go_roundg (nL - (i + 1))
        case measure => omega
        case rel => exact ⟨i + 1, va, vn, vc, rfl, by go_num, by omega, by omega, HW5, HB⟩
    · have hltz : ¬ (i : Int) < (nL : Int) := by omega
      have HE : Hid (OwnLs wr w.heap.size (.slice va vn vc) (exL tick ls)) := Lib.hid (by have h := HW.out; rw [List.take_of_length_le (by rw [HN.out]; omega)] at h; exact h)
      clear HW
      go_wp2_with fail
      go_ret2
      obtain ⟨a1, d1, e1, r1, f1⟩ := ownLs_post HE.out
      exact ⟨a1, d1, by rw [e1]; rfl, r1, f1, HB.out⟩
end Go.Proofs.YtkbbapefgifagaaGreatDoor
