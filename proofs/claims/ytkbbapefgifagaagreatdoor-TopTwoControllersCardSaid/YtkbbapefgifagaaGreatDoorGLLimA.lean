/-
Several texts in one: LimMath, LimA, LimB, LimC.
-/
import Derived.Test.YtkbbapefgifagaaGreatDoorGLSM
import Derived.Test.YtkbbapefgifagaaGreatDoorGLRefA
import Derived.Deep.QuietTactic
import Derived.BigQuiet
import Derived.IntWalk
import Derived.Laws.EntriesVeiled
import Derived.Deep.RegionHeld3
import Derived.Test.YtkbbapefgifagaaGreatDoorGBase
import Derived.Test.YtkbbapefgifagaaGreatDoorGLSiteH
/-
Plain: what a conductor may carry. No program in sight.
-/
namespace Go.Proofs.YtkbbapefgifagaaGreatDoor
set_option linter.unusedVariables false
def roomC (c : GCon) : Int := min c.loss c.den * (c.most - c.amb)
def zC (c : GCon) : Bool := decide (c.amb = 0 ∧ c.most = 0 ∧ c.gain = 0 ∧ c.loss = 0 ∧ c.den = 0)
def okAm (gain room : Int) (n : Nat) : Bool := decide (gain * (n : Int) * (n : Int) ≤ room)
/-- The greatest number up to N that is good. -/
def grN (gain room : Int) : Nat → Nat
  | 0 => 0
  | n + 1 => if okAm gain room (n + 1) = true then n + 1 else grN gain room n
theorem grN_le (gain room : Int) : ∀ N, grN gain room N ≤ N
  | 0 => Nat.le_refl _
  | n + 1 => by
    unfold grN
    split
    · exact Nat.le_refl _
    · have := grN_le gain room n; omega
theorem okAm_zero {gain room : Int} (h : 0 ≤ room) : okAm gain room 0 = true := by
  unfold okAm
  simp [h]
theorem grN_ok {gain room : Int} (h : 0 ≤ room) : ∀ N, okAm gain room (grN gain room N) = true
  | 0 => okAm_zero h
  | n + 1 => by
    unfold grN
    split
    · assumption
    · exact grN_ok h n
theorem grN_most {gain room : Int} {m : Nat} (hm : okAm gain room m = true) : ∀ N, m ≤ N → m ≤ grN gain room N
  | 0, h => h
  | n + 1, h => by
    unfold grN
    split
    · exact h
    · rename_i hn
      have : m ≠ n + 1 := fun e => hn (e ▸ hm)
      exact grN_most hm n (by omega)
theorem okAm_down {gain room : Int} (hg : 0 ≤ gain) {m n : Nat} (h : m ≤ n) (hn : okAm gain room n = true) : okAm gain room m = true := by
  unfold okAm at *
  simp only [decide_eq_true_eq] at *
  have h1 : gain * (m : Int) ≤ gain * (n : Int) := Int.mul_le_mul_of_nonneg_left (by omega) hg
  have h2 : gain * (m : Int) * (m : Int) ≤ gain * (n : Int) * (m : Int) := Int.mul_le_mul_of_nonneg_right h1 (by omega)
  have h3 : gain * (n : Int) * (m : Int) ≤ gain * (n : Int) * (n : Int) := Int.mul_le_mul_of_nonneg_left (by omega) (Int.mul_nonneg hg (by omega))
  omega
theorem grN_eq {gain room : Int} {k N : Nat} (hk : k ≤ N) (h : okAm gain room k = true) (hn : ∀ m, k < m → m ≤ N → okAm gain room m = false) (h0 : 0 ≤ room) : grN gain room N = k := by
  have h1 := grN_most h N hk
  have h2 := grN_ok (gain := gain) h0 N
  have h3 := grN_le gain room N
  rcases Nat.lt_or_ge k (grN gain room N) with h4 | h4
  · rw [hn _ h4 h3] at h2
    cases h2
  · omega
/-- What a cable carries for ever. -/
def permV (c : GCon) : Int := if zC c = true then 1000 else (grN c.gain (roomC c) 1000 : Nat)
/-- What a conductor may carry. -/
def limV (c : GCon) : Int := if c.rated = 0 then min (min c.limit c.neutral) (permV c) else min (min (min c.limit c.neutral) (permV c)) c.rated
/-- What is known of a conductor of a valid site. -/
structure OkC (c : GCon) : Prop where
  lim : 1 ≤ c.limit ∧ c.limit ≤ 1000
  neu : 1 ≤ c.neutral ∧ c.neutral ≤ 1000
  fuse : (c.rated = 0 ∧ c.heat = 0) ∨ ((1 ≤ c.rated ∧ c.rated ≤ 1000) ∧ (0 ≤ c.heat ∧ c.heat ≤ 1000000))
  cab : zC c = true ∨ ((0 ≤ c.amb ∧ c.amb ≤ 200000) ∧ (0 ≤ c.most ∧ c.most ≤ 200000) ∧ (0 ≤ c.gain ∧ c.gain ≤ 1000) ∧ (0 ≤ c.loss ∧ c.loss ≤ 1000) ∧ (1 ≤ c.den ∧ c.den ≤ 1000000) ∧ c.amb < c.most)
theorem OkC.of {i : Nat} {c : GCon} (h : okCon i c = true) : OkC c := by
  unfold okCon okFuse okCable inside at h
  simp only [Bool.and_eq_true, decide_eq_true_eq] at h
  obtain ⟨⟨⟨_, h1, h2⟩, h3⟩, h4⟩ := h
  refine ⟨h1, h2, h3, ?_⟩
  rcases h4 with h4 | h4
  · left; unfold zC; simp only [decide_eq_true_eq]; exact h4
  · exact .inr h4
theorem OkSite.okC {keys : List (List UInt8)} {s : GSite} (h : OkSite keys s) {i : Nat} {c : GCon} (hc : s.cons[i]? = some c) : OkC c := OkC.of (h.con i c hc)
theorem OkC.room {c : GCon} (h : OkC c) (hz : zC c = false) : 0 ≤ roomC c ∧ roomC c ≤ 200000000 ∧ 0 ≤ c.gain ∧ c.gain ≤ 1000 := by
  rcases h.cab with h1 | ⟨⟨a1, a2⟩, ⟨b1, b2⟩, ⟨c1, c2⟩, ⟨d1, d2⟩, ⟨e1, e2⟩, f⟩
  · rw [hz] at h1; cases h1
  · unfold roomC
    have hm : 0 ≤ min c.loss c.den ∧ min c.loss c.den ≤ 1000 := by omega
    have h2 : min c.loss c.den * (c.most - c.amb) ≤ 1000 * (c.most - c.amb) := Int.mul_le_mul_of_nonneg_right hm.2 (by omega)
    exact ⟨Int.mul_nonneg hm.1 (by omega), by omega, c1, c2⟩
end Go.Proofs.YtkbbapefgifagaaGreatDoor
/-
cable.Permitted, and the reference's.
-/
namespace Go.Proofs.YtkbbapefgifagaaGreatDoor
open Go.RowKit
set_option linter.unusedVariables false
set_option linter.unusedSimpArgs false
theorem cbInside_any (n a b : Int) (w : World) : Calls Tryz.prog 124 #[.int .i64 n, .int .i64 a, .int .i64 b] w fun e w' => e = .returned (.bool (decide (a ≤ n) && decide (n ≤ b))) ∧ w' = w := by
  go_enter Tryz.func124, Tryz.ntmps124
  by_cases h : a ≤ n
  · go_wp2
    go_ret
    exact ⟨ret_bool (by simp [h]), rfl⟩
  · go_wp2
    go_ret
    exact ⟨ret_bool (by rw [decide_eq_false (by omega)]; rfl), rfl⟩
theorem cbInside_yes (n a b : Int) (h1 : a ≤ n) (h2 : n ≤ b) (w : World) : Calls Tryz.prog 124 #[.int .i64 n, .int .i64 a, .int .i64 b] w fun e w' => e = .returned (.bool true) ∧ w' = w := by
  refine (cbInside_any n a b w).mono ?_
  rintro e w' ⟨rfl, rfl⟩
  exact ⟨ret_bool (by simp [h1, h2]), rfl⟩
theorem eq_cable (a m g l d : Int) (W : World) : (Op.equalIn 10000 70 (.agg #[.int .i64 a, .int .i64 m, .int .i64 g, .int .i64 l, .int .i64 d]) (.agg #[.int .i64 0, .int .i64 0, .int .i64 0, .int .i64 0, .int .i64 0])).run Tryz.prog W = .ok (decide (a = 0 ∧ m = 0 ∧ g = 0 ∧ l = 0 ∧ d = 0)) W := by
  go_simp
  by_cases h0 : a = 0 <;> by_cases h1 : m = 0 <;> by_cases h2 : g = 0 <;> by_cases h3 : l = 0 <;> by_cases h4 : d = 0 <;> simp [h0, h1, h2, h3, h4]
set_option maxRecDepth 100000 in
set_option maxHeartbeats 4000000 in
theorem cbValid_ok (c : GCon) (hc : OkC c) (w : World) : Calls Tryz.prog 115 #[.agg #[.int .i64 c.amb, .int .i64 c.most, .int .i64 c.gain, .int .i64 c.loss, .int .i64 c.den]] w fun e w' => e = .returned (.bool true) ∧ Below w.heap.size w w' := by
  have HB : Hid (Below w.heap.size w (w.alloc (.cells #[.int .i64 c.amb, .int .i64 c.most, .int .i64 c.gain, .int .i64 c.loss, .int .i64 c.den] 70))) := Lib.hid ((Below.refl _ w).alloc (Nat.le_refl _) _)
  have hq0 := fun W => eq_cable c.amb c.most c.gain c.loss c.den W
  have hz : decide (c.amb = 0 ∧ c.most = 0 ∧ c.gain = 0 ∧ c.loss = 0 ∧ c.den = 0) = zC c := rfl
  rw [hz] at hq0
  clear hz
  go_enter Tryz.func115, Tryz.ntmps115
  cases hzc : zC c
  · rw [hzc] at hq0
    rcases hc.cab with h | ⟨⟨a1, a2⟩, ⟨b1, b2⟩, ⟨g1, g2⟩, ⟨l1, l2⟩, ⟨e1, e2⟩, f⟩
    · rw [hzc] at h; cases h
    clear hzc hc
    go_wp2_with fail
    refine (cbInside_yes _ _ _ a1 a2 _).mono ?_
    rintro e w1 ⟨rfl, hw⟩
    subst w1
    go_wp2_with fail
    refine (cbInside_yes _ _ _ g1 g2 _).mono ?_
    rintro e w1 ⟨rfl, hw⟩
    subst w1
    go_wp2_with fail
    refine (cbInside_yes _ _ _ l1 l2 _).mono ?_
    rintro e w1 ⟨rfl, hw⟩
    subst w1
    go_wp2_with fail
    refine (cbInside_yes _ _ _ e1 e2 _).mono ?_
    rintro e w1 ⟨rfl, hw⟩
    subst w1
    go_wp2_with fail
    go_ret
    exact ⟨rfl, HB.out⟩
  · rw [hzc] at hq0
    go_wp2_with fail
    go_ret
    exact ⟨rfl, HB.out⟩
/-- A cable with its temperature, in memory. -/
structure WarmM (W : World) (b : Nat) (c : GCon) : Prop where
  k0 : W.cell? ⟨b, 0, none⟩ = some (.int .i64 c.amb)
  k1 : W.cell? ⟨b, 1, none⟩ = some (.int .i64 c.most)
  k2 : W.cell? ⟨b, 2, none⟩ = some (.int .i64 c.gain)
  k3 : W.cell? ⟨b, 3, none⟩ = some (.int .i64 c.loss)
  k4 : W.cell? ⟨b, 4, none⟩ = some (.int .i64 c.den)
set_option maxRecDepth 100000 in
theorem cbNone_any (b : Nat) (c : GCon) (w : World) (h : WarmM w b c) : Calls Tryz.prog 116 #[.pointer (some ⟨b, 0, none⟩)] w fun e w' => e = .returned (.bool (zC c)) ∧ w' = w := by
  obtain ⟨k0, k1, k2, k3, k4⟩ := h
  have hq0 := fun W => eq_cable c.amb c.most c.gain c.loss c.den W
  have hz : decide (c.amb = 0 ∧ c.most = 0 ∧ c.gain = 0 ∧ c.loss = 0 ∧ c.den = 0) = zC c := rfl
  rw [hz] at hq0
  clear hz
  go_enter Tryz.func116, Tryz.ntmps116
  go_wp2
  go_ret
  exact ⟨rfl, rfl⟩
set_option maxRecDepth 100000 in
theorem cbLoss_any (b : Nat) (c : GCon) (w : World) (h : WarmM w b c) : Calls Tryz.prog 117 #[.pointer (some ⟨b, 0, none⟩)] w fun e w' => e = .returned (.int .i64 (min c.loss c.den)) ∧ ∃ q, w' = w.drewN q := by
  obtain ⟨k0, k1, k2, k3, k4⟩ := h
  go_enter Tryz.func117, Tryz.ntmps117
  go_wp2_with fail
  go_quiet (fail)
  go_wp2_with fail
  all_goals
    go_ret
    exact ⟨ret_int (by omega), _, rfl⟩
set_option maxRecDepth 100000 in
theorem cbPerm1_any (p b r : Nat) (c : GCon) (room : Int) (n : Nat) (hn : n ≤ 1000) (hg : 0 ≤ c.gain ∧ c.gain ≤ 1000) (w : World) (hp : w.cell? ⟨p, 0, none⟩ = some (.pointer (some ⟨b, 0, none⟩))) (h : WarmM w b c) (hr : w.cell? ⟨r, 0, none⟩ = some (.int .i64 room)) :
    Calls Tryz.prog 119 #[.int .i64 (n : Nat), .pointer (some ⟨p, 0, none⟩), .pointer (some ⟨r, 0, none⟩)] w fun e w' => e = .returned (.bool (okAm c.gain room n)) ∧ ∃ q, w' = w.drewN q := by
  obtain ⟨k0, k1, k2, k3, k4⟩ := h
  have h1 : c.gain * (n : Int) ≤ 1000 * (n : Int) := Int.mul_le_mul_of_nonneg_right hg.2 (by omega)
  have h1' : 0 ≤ c.gain * (n : Int) := Int.mul_nonneg hg.1 (by omega)
  have h2 : c.gain * (n : Int) * (n : Int) ≤ 1000000 * (n : Int) := Int.mul_le_mul_of_nonneg_right (by omega) (by omega)
  have h2' : 0 ≤ c.gain * (n : Int) * (n : Int) := Int.mul_nonneg h1' (by omega)
  have w1 : IntKind.i64.wrap (c.gain * (n : Int)) = c.gain * (n : Int) := IntWalk.i64_in _ (by omega)
  have w2 : IntKind.i64.wrap (c.gain * (n : Int) * (n : Int)) = c.gain * (n : Int) * (n : Int) := IntWalk.i64_in _ (by omega)
  go_enter Tryz.func119, Tryz.ntmps119
  go_wp2_with fail
  go_quiet (fail)
  go_wp2_with fail
  go_ret
  exact ⟨rfl, _, rfl⟩
set_option maxRecDepth 100000 in
set_option maxHeartbeats 4000000 in
theorem cbGreat_any (p b r : Nat) (c : GCon) (room : Int) (h0 : 0 ≤ room) (hg : 0 ≤ c.gain ∧ c.gain ≤ 1000) (w : World) (hp : w.cell? ⟨p, 0, none⟩ = some (.pointer (some ⟨b, 0, none⟩))) (h : WarmM w b c) (hr : w.cell? ⟨r, 0, none⟩ = some (.int .i64 room)) :
    Calls Tryz.prog 118 #[.int .i64 0, .int .i64 1000, .func (.func 119) #[] #[.pointer (some ⟨p, 0, none⟩), .pointer (some ⟨r, 0, none⟩)]] w fun e w' => e = .returned (.int .i64 (grN c.gain room 1000 : Nat)) ∧ ∃ q, w' = w.drewN q := by
  have HW := Lib.hid h
  have HP := Lib.hid hp
  have HR := Lib.hid hr
  clear h hp hr
  go_enter Tryz.func118, Tryz.ntmps118
  go_wp2_with fail
  go_loopg [0, 1, 7] 1001 (fun g1 v0 v1 v7 wr => ∃ lo hi : Nat, v0 = .int .i64 (lo : Nat) ∧ v1 = .int .i64 (hi : Nat) ∧ lo ≤ hi ∧ hi ≤ 1000 ∧ hi - lo < g1 ∧ Hid (okAm c.gain room lo = true ∧ ∀ m, hi < m → m ≤ 1000 → okAm c.gain room m = false) ∧ Hid (∃ q, wr = w.drewN q))
  case atStart => exact ⟨0, 1000, by go_num, by go_num, by omega, by omega, by omega, Lib.hid ⟨okAm_zero h0, fun m h1 h2 => by omega⟩, Lib.hid ⟨0, rfl⟩⟩
  case round =>
    obtain ⟨lo, hi, rfl, rfl, hl, hh, hg1, HI, HQ⟩ := hrel
    obtain ⟨q, hq⟩ := HQ.out
    subst hq
    by_cases hlt : lo < hi
    · have hltz : (lo : Int) < (hi : Int) := by omega
      obtain ⟨mid, hm, h1, h2⟩ : ∃ mid : Nat, (lo : Int) + ((hi : Int) - lo + 1) / 2 = (mid : Int) ∧ lo < mid ∧ mid ≤ hi := ⟨lo + (hi - lo + 1) / 2, by omega, by omega, by omega⟩
      have HC := Lib.hid (cbPerm1_any p b r c room mid (by omega) hg (w.drewN q) HP.out (show WarmM (w.drewN q) b c from ⟨HW.out.k0, HW.out.k1, HW.out.k2, HW.out.k3, HW.out.k4⟩) HR.out)
      have HMD := Lib.hid hm
      clear hm
      go_wp2_with fail
      rw [HMD.out]
      refine HC.out.mono ?_
      rintro e w1 ⟨rfl, q2, hw⟩
      subst w1
      cases hok : okAm c.gain room mid
      · have HI2 : Hid (okAm c.gain room lo = true ∧ ∀ m, mid - 1 < m → m ≤ 1000 → okAm c.gain room m = false) := Lib.hid ⟨HI.out.1, fun m h3 h4 => by
          cases hm : okAm c.gain room m
          · rfl
          · have := okAm_down hg.1 (show mid ≤ m by omega) hm
            rw [hok] at this
            cases this⟩
        clear hok
        go_wp2_with fail
        go_roundg (mid - 1 - lo + 1)
        case measure => omega
        case rel => exact ⟨lo, mid - 1, rfl, val_int (by omega), by omega, by omega, by omega, HI2, Lib.hid ⟨_, rfl⟩⟩
      · have HI2 : Hid (okAm c.gain room mid = true ∧ ∀ m, hi < m → m ≤ 1000 → okAm c.gain room m = false) := Lib.hid ⟨hok, HI.out.2⟩
        clear hok
        go_wp2_with fail
        go_roundg (hi - mid + 1)
        case measure => omega
        case rel => exact ⟨mid, hi, rfl, rfl, by omega, by omega, by omega, HI2, Lib.hid ⟨_, rfl⟩⟩
    · have hltz : ¬ (lo : Int) < (hi : Int) := by omega
      have hle : lo = hi := by omega
      subst hle
      have HE : Hid (((lo : Nat) : Int) = (grN c.gain room 1000 : Nat)) := Lib.hid (by rw [grN_eq hh HI.out.1 HI.out.2 h0])
      go_wp2_with fail
      go_ret
      exact ⟨ret_int HE.out, _, rfl⟩
end Go.Proofs.YtkbbapefgifagaaGreatDoor
/-
cable.Permitted, limits.limit, and the reference's.
-/
namespace Go.Proofs.YtkbbapefgifagaaGreatDoor
open Go.RowKit
set_option linter.unusedVariables false
set_option linter.unusedSimpArgs false
theorem WarmM.keep {W W' : World} {b : Nat} {c : GCon} (h : WarmM W b c) (hb : Below W.heap.size W W') : WarmM W' b c := by
  have l := World.block_lt_of_cell? W _ h.k0
  exact ⟨(hb.cell (p := ⟨b, 0, none⟩) l).trans h.k0, (hb.cell (p := ⟨b, 1, none⟩) l).trans h.k1, (hb.cell (p := ⟨b, 2, none⟩) l).trans h.k2, (hb.cell (p := ⟨b, 3, none⟩) l).trans h.k3, (hb.cell (p := ⟨b, 4, none⟩) l).trans h.k4⟩
set_option maxRecDepth 100000 in
set_option maxHeartbeats 4000000 in
theorem cbPerm_ok (c : GCon) (hc : OkC c) (w : World) : Calls Tryz.prog 105 #[.agg #[.int .i64 c.amb, .int .i64 c.most, .int .i64 c.gain, .int .i64 c.loss, .int .i64 c.den]] w fun e w' => e = .returned (.tuple #[.int .i64 (permV c), .int .i64 0]) ∧ Below w.heap.size w w' := by
  obtain ⟨W, hW⟩ : ∃ W, W = w.alloc (.cells #[.int .i64 c.amb, .int .i64 c.most, .int .i64 c.gain, .int .i64 c.loss, .int .i64 c.den] 70) := ⟨_, rfl⟩
  have bw : Below w.heap.size w W := by rw [hW]; exact (Below.refl _ w).alloc (Nat.le_refl _) _
  have k0 : W.cell? ⟨w.heap.size, 0, none⟩ = some (.int .i64 c.amb) := by rw [hW]; go_simp
  have k1 : W.cell? ⟨w.heap.size, 1, none⟩ = some (.int .i64 c.most) := by rw [hW]; go_simp
  have k2 : W.cell? ⟨w.heap.size, 2, none⟩ = some (.int .i64 c.gain) := by rw [hW]; go_simp
  have k3 : W.cell? ⟨w.heap.size, 3, none⟩ = some (.int .i64 c.loss) := by rw [hW]; go_simp
  have k4 : W.cell? ⟨w.heap.size, 4, none⟩ = some (.int .i64 c.den) := by rw [hW]; go_simp
  have hs : w.heap.size < W.heap.size := by rw [hW]; simp
  have HWQ := Lib.hid hW.symm
  have HV := Lib.hid (cbValid_ok c hc W)
  have HB := Lib.hid bw
  clear hW bw
  go_enter Tryz.func105, Tryz.ntmps105
  go_wp2_with fail
  rw [HWQ.out]
  refine HV.out.mono ?_
  rintro e w1 ⟨rfl, hb⟩
  have q0 := (hb.cell (p := ⟨w.heap.size, 0, none⟩) hs).trans k0
  have q1 := (hb.cell (p := ⟨w.heap.size, 1, none⟩) hs).trans k1
  have q2 := (hb.cell (p := ⟨w.heap.size, 2, none⟩) hs).trans k2
  have q3 := (hb.cell (p := ⟨w.heap.size, 3, none⟩) hs).trans k3
  have q4 := (hb.cell (p := ⟨w.heap.size, 4, none⟩) hs).trans k4
  have HB1 := Lib.hid (below_then HB.out hb)
  clear hb k0 k1 k2 k3 k4 HV HB hs HWQ
  obtain ⟨W2, hW2⟩ : ∃ W2, W2 = (w1.alloc (.cells #[.int .i64 c.amb, .int .i64 c.most, .int .i64 c.gain, .int .i64 c.loss, .int .i64 c.den, .int .i64 0] 208)).alloc (.cells #[.pointer (some ⟨w1.heap.size, 0, none⟩)] 206) := ⟨_, rfl⟩
  have bw2 : Below w1.heap.size w1 W2 := by rw [hW2]; exact ((Below.refl _ w1).alloc (Nat.le_refl _) _).alloc (by simp) _
  have hwm : WarmM W2 w1.heap.size c := by rw [hW2]; exact ⟨by go_simp, by go_simp, by go_simp, by go_simp, by go_simp⟩
  have hp : W2.cell? ⟨w1.heap.size + 1, 0, none⟩ = some (.pointer (some ⟨w1.heap.size, 0, none⟩)) := by rw [hW2]; go_simp
  have HN := Lib.hid (cbNone_any w1.heap.size c W2 hwm)
  have HWM := Lib.hid hwm
  have HB2 := Lib.hid (below_then HB1.out bw2)
  have HQ := Lib.hid hW2.symm
  have hs2 : w1.heap.size + 1 < W2.heap.size := by rw [hW2]; simp
  clear hW2 bw2 hwm
  go_wp2_with fail
  rw [HQ.out]
  refine HN.out.mono ?_
  rintro e w3 ⟨rfl, hw⟩
  subst w3
  clear q0 q1 q2 q3 q4
  cases hzc : zC c
  case true =>
    have HE : Hid ((1000 : Int) = permV c) := Lib.hid (by unfold permV; rw [if_pos hzc])
    go_wp2_with fail
    refine bodyPost_ret (results_tmp2 rfl _ _ _) rfl ?_
    exact ⟨by rw [← HE.out]; rfl, HB2.out⟩
  case false =>
    obtain ⟨r1, r2, g1, g2⟩ := hc.room hzc
    have HE : Hid (((grN c.gain (roomC c) 1000 : Nat) : Int) = permV c) := Lib.hid (by unfold permV; rw [hzc]; rfl)
    rcases hc.cab with h | ⟨⟨a1, a2⟩, ⟨b1, b2⟩, _, ⟨l1, l2⟩, ⟨e1, e2⟩, f⟩
    · rw [hzc] at h; cases h
    have hrw : IntKind.i64.wrap (min c.loss c.den * (c.most - c.amb)) = roomC c := IntWalk.i64_in _ (by unfold roomC at r1 r2; omega)
    have hsm : IntKind.i64.wrap (c.most - c.amb) = c.most - c.amb := IntWalk.i64_in _ (by omega)
    clear hzc hc
    generalize w1.heap.size = b at *
    have HWMx := HWM
    go_wp2_with fail
    refine region_z (S := fun w' => Below W2.heap.size W2 w') [] (by kernel_rfl) (Below.refl _ _).drew (fun hHeld => ?_)
    refine zt (i := 0) (v := (.pointer (some ⟨b, 0, none⟩))) [] (fun w' hSw => ?_) hHeld ?_
    · obtain ⟨s0, s1, s2, s3, s4⟩ := HWM.out.keep hSw
      have sp := (hSw.cell (p := ⟨b + 1, 0, none⟩) hs2).trans hp
      clear hHeld hSw hp
      go_simp
    simp only [Act.put, zl0, zl1, zl2, zl3, zl4, zl5]
    refine zt (i := 2) (v := (.pointer (some ⟨b, 0, none⟩))) [] (fun w' hSw => ?_) hHeld ?_
    · obtain ⟨s0, s1, s2, s3, s4⟩ := HWM.out.keep hSw
      have sp := (hSw.cell (p := ⟨b + 1, 0, none⟩) hs2).trans hp
      clear hHeld hSw hp
      go_simp
    simp only [Act.put, zl0, zl1, zl2, zl3, zl4, zl5]
    refine zt (i := 3) (v := (.pointer (some ⟨b, 0, none⟩))) [] (fun w' hSw => ?_) hHeld ?_
    · obtain ⟨s0, s1, s2, s3, s4⟩ := HWM.out.keep hSw
      have sp := (hSw.cell (p := ⟨b + 1, 0, none⟩) hs2).trans hp
      clear hHeld hSw hp
      go_simp
    simp only [Act.put, zl0, zl1, zl2, zl3, zl4, zl5]
    refine zt (i := 4) (v := (.pointer (some ⟨b, 0, none⟩))) [] (fun w' hSw => ?_) hHeld ?_
    · obtain ⟨s0, s1, s2, s3, s4⟩ := HWM.out.keep hSw
      have sp := (hSw.cell (p := ⟨b + 1, 0, none⟩) hs2).trans hp
      clear hHeld hSw hp
      go_simp
    simp only [Act.put, zl0, zl1, zl2, zl3, zl4, zl5]
    refine zt (i := 5) (v := (.pointer (some ⟨b, 1, none⟩))) [] (fun w' hSw => ?_) hHeld ?_
    · obtain ⟨s0, s1, s2, s3, s4⟩ := HWM.out.keep hSw
      have sp := (hSw.cell (p := ⟨b + 1, 0, none⟩) hs2).trans hp
      clear hHeld hSw hp
      go_simp
    simp only [Act.put, zl0, zl1, zl2, zl3, zl4, zl5]
    refine zt (i := 6) (v := (.int .i64 c.most)) [] (fun w' hSw => ?_) hHeld ?_
    · obtain ⟨s0, s1, s2, s3, s4⟩ := HWM.out.keep hSw
      have sp := (hSw.cell (p := ⟨b + 1, 0, none⟩) hs2).trans hp
      clear hHeld hSw hp
      go_simp
    simp only [Act.put, zl0, zl1, zl2, zl3, zl4, zl5]
    refine zt (i := 7) (v := (.pointer (some ⟨b, 0, none⟩))) [] (fun w' hSw => ?_) hHeld ?_
    · obtain ⟨s0, s1, s2, s3, s4⟩ := HWM.out.keep hSw
      have sp := (hSw.cell (p := ⟨b + 1, 0, none⟩) hs2).trans hp
      clear hHeld hSw hp
      go_simp
    simp only [Act.put, zl0, zl1, zl2, zl3, zl4, zl5]
    refine zt (i := 8) (v := (.pointer (some ⟨b, 0, none⟩))) [] (fun w' hSw => ?_) hHeld ?_
    · obtain ⟨s0, s1, s2, s3, s4⟩ := HWM.out.keep hSw
      have sp := (hSw.cell (p := ⟨b + 1, 0, none⟩) hs2).trans hp
      clear hHeld hSw hp
      go_simp
    simp only [Act.put, zl0, zl1, zl2, zl3, zl4, zl5]
    refine zt (i := 9) (v := (.pointer (some ⟨b, 0, none⟩))) [] (fun w' hSw => ?_) hHeld ?_
    · obtain ⟨s0, s1, s2, s3, s4⟩ := HWM.out.keep hSw
      have sp := (hSw.cell (p := ⟨b + 1, 0, none⟩) hs2).trans hp
      clear hHeld hSw hp
      go_simp
    simp only [Act.put, zl0, zl1, zl2, zl3, zl4, zl5]
    refine zt (i := 10) (v := (.pointer (some ⟨b, 0, none⟩))) [] (fun w' hSw => ?_) hHeld ?_
    · obtain ⟨s0, s1, s2, s3, s4⟩ := HWM.out.keep hSw
      have sp := (hSw.cell (p := ⟨b + 1, 0, none⟩) hs2).trans hp
      clear hHeld hSw hp
      go_simp
    simp only [Act.put, zl0, zl1, zl2, zl3, zl4, zl5]
    refine zt (i := 11) (v := (.int .i64 c.amb)) [] (fun w' hSw => ?_) hHeld ?_
    · obtain ⟨s0, s1, s2, s3, s4⟩ := HWM.out.keep hSw
      have sp := (hSw.cell (p := ⟨b + 1, 0, none⟩) hs2).trans hp
      clear hHeld hSw hp
      go_simp
    simp only [Act.put, zl0, zl1, zl2, zl3, zl4, zl5]
    refine zt (i := 12) (v := (.int .i64 (c.most - c.amb))) [] (fun w' hSw => ?_) hHeld ?_
    · obtain ⟨s0, s1, s2, s3, s4⟩ := HWM.out.keep hSw
      have sp := (hSw.cell (p := ⟨b + 1, 0, none⟩) hs2).trans hp
      clear hHeld hSw hp
      go_simp
    simp only [Act.put, zl0, zl1, zl2, zl3, zl4, zl5]
    refine wpAnyZ_two (i := 1) (k := 14) (by kernel_rfl) rfl rfl (fun K' hK => ?_) (fun K' hK => ?_)
    · go_simp
      refine (cbLoss_any b c W2.drew (HWM.out.keep hHeld)).mono ?_
      rintro e w4 ⟨rfl, q4, hq4⟩
      subst w4
      refine hK.out _ _ ?_ (fun hHeld' => ?_)
      · exact below_drewG _ hHeld
      clear hK K' hHeld
      have hHeld := hHeld'
      clear hHeld'
      try simp only [Act.put, zl0, zl1, zl2, zl3, zl4, zl5]
      refine zt (i := 13) (v := (.int .i64 (roomC c))) [] (fun w' hSw => ?_) hHeld ?_
      · obtain ⟨s0, s1, s2, s3, s4⟩ := HWM.out.keep hSw
        have sp := (hSw.cell (p := ⟨b + 1, 0, none⟩) hs2).trans hp
        clear hHeld hSw hp
        go_simp
      simp only [Act.put, zl0, zl1, zl2, zl3, zl4, zl5]
      refine zo 14 (fun K' hK => ?_)
      go_simp
      refine hK.out _ _ ?_ (fun hHeld' => ?_)
      · exact (below_drewG (1 + q4) (Below.refl _ W2)).alloc (Nat.le_refl _) _
      clear hK K' hHeld
      have hHeld := hHeld'
      clear hHeld'
      try simp only [Act.put, zl0, zl1, zl2, zl3, zl4, zl5]
      have ho := Own.one (W2.drewN (1 + q4)) 3 (.int .i64 0)
      have hn0 : ((W2.drewN (1 + q4)).alloc (.cells #[.int .i64 0] 3)).cell? ⟨W2.heap.size, 0, none⟩ = some (.int .i64 0) := ho.cell (i := 0) (by omega)
      have hf0 : ((W2.drewN (1 + q4)).alloc (.cells #[.int .i64 0] 3)).frozen? ⟨W2.heap.size, 0, none⟩ = false := ho.frozen 0
      have hs9 : Own (((W2.drewN (1 + q4)).alloc (.cells #[.int .i64 0] 3)).setCell ⟨W2.heap.size, 0, none⟩ (.int .i64 (roomC c))) W2.heap.size 3 1 (fun _ => .int .i64 (roomC c)) := Own.set1 ho _
      have HS9 := Lib.hid hs9
      clear ho hs9
      refine zo 15 (fun K' hK => ?_)
      go_simp
      refine hK.out _ _ ?_ (fun hHeld' => ?_)
      · exact ((below_drewG (1 + q4) (Below.refl _ W2)).alloc (Nat.le_refl _) _).setCell (p := ⟨W2.heap.size, 0, none⟩) (Nat.le_refl _) _
      clear hK K' hHeld
      have hHeld := hHeld'
      clear hHeld'
      try simp only [Act.put, zl0, zl1, zl2, zl3, zl4, zl5]
      refine wpAnyZ_done (by kernel_rfl) ?_ _
      go_step
      go_step
      refine wp_world (fun W => Below W2.heap.size W2 W ∧ W.cell? ⟨W2.heap.size, 0, none⟩ = some (.int .i64 (roomC c))) ⟨hHeld, HS9.out.cell (i := 0) (by omega)⟩ (fun W9 hW9 => ?_)
      clear hHeld
      obtain ⟨hb9, hr9⟩ := hW9
      have hp9 := (hb9.cell (p := ⟨b + 1, 0, none⟩) hs2).trans hp
      have HG := Lib.hid (cbGreat_any (b + 1) b W2.heap.size c (roomC c) r1 ⟨g1, g2⟩ W9 hp9 (HWM.out.keep hb9) hr9)
      have HB9 := Lib.hid (below_then HB2.out hb9)
      clear hb9 hr9 hp9
      go_wp2_with fail
      refine HG.out.mono ?_
      rintro e w8 ⟨rfl, q8, hq8⟩
      subst w8
      go_wp2_with fail
      refine bodyPost_ret (results_tmp2 rfl _ _ _) rfl ?_
      exact ⟨by rw [← HE.out]; rfl, below_drewG _ HB9.out⟩
    · go_simp
      refine hK.out _ _ ?_ (fun hHeld' => ?_)
      · exact (((Below.refl W2.heap.size W2).alloc (Nat.le_refl _) _).drew)
      clear hK K' hHeld
      have hHeld := hHeld'
      clear hHeld'
      try simp only [Act.put, zl0, zl1, zl2, zl3, zl4, zl5]
      refine zo 1 (fun K' hK => ?_)
      go_simp
      refine (cbLoss_any b c _ (HWM.out.keep hHeld)).mono ?_
      rintro e w4 ⟨rfl, q4, hq4⟩
      subst w4
      refine hK.out _ _ ?_ (fun hHeld' => ?_)
      · exact below_drewG _ hHeld
      clear hK K' hHeld
      have hHeld := hHeld'
      clear hHeld'
      try simp only [Act.put, zl0, zl1, zl2, zl3, zl4, zl5]
      refine zt (i := 13) (v := (.int .i64 (roomC c))) [] (fun w' hSw => ?_) hHeld ?_
      · obtain ⟨s0, s1, s2, s3, s4⟩ := HWM.out.keep hSw
        have sp := (hSw.cell (p := ⟨b + 1, 0, none⟩) hs2).trans hp
        clear hHeld hSw hp
        go_simp
      simp only [Act.put, zl0, zl1, zl2, zl3, zl4, zl5]
      have ho : Own ((W2.alloc (.cells #[.int .i64 0] 3)).drewN (1 + q4)) W2.heap.size 3 1 (fun _ => .int .i64 0) := (Own.one W2 3 (.int .i64 0)).drewN _
      have HS9 := Lib.hid (Own.set1 ho (.int .i64 (roomC c)))
      clear ho
      refine zo 15 (fun K' hK => ?_)
      go_simp
      refine hK.out _ _ ?_ (fun hHeld' => ?_)
      · exact (below_drewG (1 + q4) ((Below.refl _ W2).alloc (Nat.le_refl _) _)).setCell (p := ⟨W2.heap.size, 0, none⟩) (Nat.le_refl _) _
      clear hK K' hHeld
      have hHeld := hHeld'
      clear hHeld'
      try simp only [Act.put, zl0, zl1, zl2, zl3, zl4, zl5]
      refine wpAnyZ_done (by kernel_rfl) ?_ _
      go_step
      go_step
      refine wp_world (fun W => Below W2.heap.size W2 W ∧ W.cell? ⟨W2.heap.size, 0, none⟩ = some (.int .i64 (roomC c))) ⟨hHeld, HS9.out.cell (i := 0) (by omega)⟩ (fun W9 hW9 => ?_)
      clear hHeld
      obtain ⟨hb9, hr9⟩ := hW9
      have hp9 := (hb9.cell (p := ⟨b + 1, 0, none⟩) hs2).trans hp
      have HG := Lib.hid (cbGreat_any (b + 1) b W2.heap.size c (roomC c) r1 ⟨g1, g2⟩ W9 hp9 (HWM.out.keep hb9) hr9)
      have HB9 := Lib.hid (below_then HB2.out hb9)
      clear hb9 hr9 hp9
      go_wp2_with fail
      refine HG.out.mono ?_
      rintro e w8 ⟨rfl, q8, hq8⟩
      subst w8
      go_wp2_with fail
      refine bodyPost_ret (results_tmp2 rfl _ _ _) rfl ?_
      exact ⟨by rw [← HE.out]; rfl, below_drewG _ HB9.out⟩
theorem rd_litI (W : World) (cs : Array Value) (xs : List Int) (h : cs.toList = xs.map (Value.int .i64)) : Rd 1 encI (W.alloc (.cells cs 3)) (some ⟨W.heap.size, 0, none⟩) xs := by
  have hcs : cs = (xs.map (Value.int .i64)).toArray := by rw [← h]
  refine (Own.new W 3 cs undef).rd (sz := 1) (by rw [hcs]; simp) (fun _ => rfl) (fun k x hx j v hv => ?_)
  have hj : j = 0 := by have := (List.getElem?_eq_some_iff.1 hv).1; simp [encI] at this; exact this
  subst hj
  simp [encI] at hv
  rw [hcs, Nat.mul_one, Nat.add_zero, List.getElem?_toArray, List.getElem?_map, hx, ← hv]
  rfl
end Go.Proofs.YtkbbapefgifagaaGreatDoor
/-
limits.least, limits.limit, the reference's Of.
-/
namespace Go.Proofs.YtkbbapefgifagaaGreatDoor
open Go.RowKit
set_option linter.unusedVariables false
set_option linter.unusedSimpArgs false
def minL (x : Int) (xs : List Int) : Int := xs.foldl min x
theorem minL_take {x : Int} {xs : List Int} {k : Nat} (hk : k < xs.length) : minL x (xs.take (k + 1)) = min (minL x (xs.take k)) (fI xs k) := by
  unfold minL fI
  rw [take_snoc (List.getElem?_eq_getElem hk), List.foldl_append, List.getElem?_eq_getElem hk]
  rfl
set_option maxRecDepth 100000 in
set_option maxHeartbeats 4000000 in
theorem limLeast_any (x : Int) (A : Option Addr) (n c : Nat) (xs : List Int) (w : World) (HX : Hid (Rd 1 encI w A xs)) (HN : Hid (xs.length = n)) (hn : n ≤ 1000000) :
    Calls Tryz.prog 106 #[.int .i64 x, .slice A n c] w fun e w' => e = .returned (.int .i64 (minL x xs)) ∧ w' = w := by
  go_enter Tryz.func106, Tryz.ntmps106
  go_wp2_with fail
  go_loopg [0, 6, 9] n (fun g1 v0 v6 v9 wr => ∃ k : Nat, v9 = .int .i64 k ∧ k ≤ n ∧ n - k ≤ g1 ∧ v0 = .int .i64 (minL x (xs.take k)) ∧ w = wr)
  case atStart => exact ⟨0, by go_num, by omega, by omega, by simp [minL], rfl⟩
  case round =>
    obtain ⟨k, rfl, hk, hg1, rfl, rfl⟩ := hrel
    by_cases hlt : k < n
    · have hltz : (k : Int) < (n : Int) := by omega
      obtain ⟨b, off, hA, hb, hc⟩ := HX.out.int (k := k) (by rw [HN.out]; exact hlt)
      have hc' : w.cell? ⟨b, off + k, none⟩ = some (.int .i64 (fI xs k)) := hc
      have HM := Lib.hid (minL_take (x := x) (xs := xs) (k := k) (by rw [HN.out]; exact hlt))
      subst hA
      clear hc
      generalize minL x (xs.take k) = m at *
      generalize fI xs k = y at *
      rcases Int.lt_or_le y m with h | h
      · have HM2 : Hid (minL x (xs.take (k + 1)) = y) := Lib.hid (by rw [HM.out]; omega)
        go_wp2_with fail
        go_roundg (n - (k + 1))
        case measure => omega
        case rel => exact ⟨k + 1, by go_num, by omega, by omega, by rw [HM2.out], rfl⟩
      · have HM2 : Hid (minL x (xs.take (k + 1)) = m) := Lib.hid (by rw [HM.out]; omega)
        go_wp2_with fail
        go_roundg (n - (k + 1))
        case measure => omega
        case rel => exact ⟨k + 1, by go_num, by omega, by omega, by rw [HM2.out], rfl⟩
    · have hltz : ¬ (k : Int) < (n : Int) := by omega
      have HE : Hid (minL x (xs.take k) = minL x xs) := Lib.hid (by rw [List.take_of_length_le (by rw [HN.out]; omega)])
      go_wp2_with fail
      go_ret
      exact ⟨ret_int HE.out, rfl⟩
set_option maxRecDepth 100000 in
set_option maxHeartbeats 4000000 in
theorem limOf_ok (c : GCon) (hc : OkC c) (w : World) : Calls Tryz.prog 85 #[.agg #[.string c.name, .int .i64 c.up, .int .i64 c.limit, .int .i64 c.neutral, .int .i64 c.rated, .int .i64 c.heat, .int .i64 c.amb, .int .i64 c.most, .int .i64 c.gain, .int .i64 c.loss, .int .i64 c.den]] w fun e w' => e = .returned (.int .i64 (limV c)) ∧ Below w.heap.size w w' := by
  obtain ⟨W, hW⟩ : ∃ W, W = w.alloc (.cells #[.string c.name, .int .i64 c.up, .int .i64 c.limit, .int .i64 c.neutral, .int .i64 c.rated, .int .i64 c.heat, .int .i64 c.amb, .int .i64 c.most, .int .i64 c.gain, .int .i64 c.loss, .int .i64 c.den] 72) := ⟨_, rfl⟩
  have bw : Below w.heap.size w W := by rw [hW]; exact (Below.refl _ w).alloc (Nat.le_refl _) _
  have k2 : W.cell? ⟨w.heap.size, 2, none⟩ = some (.int .i64 c.limit) := by rw [hW]; go_simp
  have k3 : W.cell? ⟨w.heap.size, 3, none⟩ = some (.int .i64 c.neutral) := by rw [hW]; go_simp
  have k4 : W.cell? ⟨w.heap.size, 4, none⟩ = some (.int .i64 c.rated) := by rw [hW]; go_simp
  have hs : w.heap.size < W.heap.size := by rw [hW]; simp
  have HP := Lib.hid (cbPerm_ok c hc W)
  have HWQ := Lib.hid hW.symm
  have HB := Lib.hid bw
  rw [hW] at HP
  clear bw
  go_enter Tryz.func85, Tryz.ntmps85
  go_wp2_with fail
  refine HP.out.mono ?_
  rintro e w1 ⟨rfl, hb⟩
  rw [← hW] at hb
  have q2 := (hb.cell (p := ⟨w.heap.size, 2, none⟩) hs).trans k2
  have q3 := (hb.cell (p := ⟨w.heap.size, 3, none⟩) hs).trans k3
  have q4 := (hb.cell (p := ⟨w.heap.size, 4, none⟩) hs).trans k4
  have HB1 := Lib.hid (below_then HB.out hb)
  clear hb k2 k3 k4 hW HP HB hs HWQ
  by_cases hr : c.rated = 0
  · have HE : Hid (minL c.limit [c.neutral, permV c] = limV c) := Lib.hid (by unfold limV minL; rw [if_pos hr]; rfl)
    have hre : (c.rated == 0) = true := by rw [beq_iff_eq]; exact hr
    have al : Below w1.heap.size w1 (w1.alloc (.cells #[.int .i64 c.neutral, .int .i64 (permV c)] 3)) := (Below.refl _ w1).alloc (Nat.le_refl _) _
    have HL := Lib.hid (limLeast_any c.limit (some ⟨w1.heap.size, 0, none⟩) 2 2 [c.neutral, permV c] (w1.alloc (.cells #[.int .i64 c.neutral, .int .i64 (permV c)] 3)) (Lib.hid (rd_litI w1 #[.int .i64 c.neutral, .int .i64 (permV c)] [c.neutral, permV c] rfl)) (Lib.hid rfl) (by omega))
    have HB2 := Lib.hid (below_then HB1.out al)
    clear hr al
    go_wp2_with fail
    refine HL.out.mono ?_
    rintro e w2 ⟨rfl, hw⟩
    subst w2
    go_wp2_with fail
    go_ret
    exact ⟨ret_int HE.out, HB2.out⟩
  · have HE : Hid (minL c.limit [c.neutral, permV c, c.rated] = limV c) := Lib.hid (by unfold limV minL; rw [if_neg hr]; rfl)
    have hre : (c.rated == 0) = false := by rw [beq_eq_false_iff_ne]; exact hr
    have al : Below w1.heap.size w1 (w1.alloc (.cells #[.int .i64 c.neutral, .int .i64 (permV c), .int .i64 c.rated] 3)) := (Below.refl _ w1).alloc (Nat.le_refl _) _
    have HL := Lib.hid (limLeast_any c.limit (some ⟨w1.heap.size, 0, none⟩) 3 3 [c.neutral, permV c, c.rated] (w1.alloc (.cells #[.int .i64 c.neutral, .int .i64 (permV c), .int .i64 c.rated] 3)) (Lib.hid (rd_litI w1 #[.int .i64 c.neutral, .int .i64 (permV c), .int .i64 c.rated] [c.neutral, permV c, c.rated] rfl)) (Lib.hid rfl) (by omega))
    have HB2 := Lib.hid (below_then HB1.out al)
    clear hr al
    go_wp2_with fail
    refine HL.out.mono ?_
    rintro e w2 ⟨rfl, hw⟩
    subst w2
    go_wp2_with fail
    go_ret
    exact ⟨ret_int HE.out, HB2.out⟩
end Go.Proofs.YtkbbapefgifagaaGreatDoor
