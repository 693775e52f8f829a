/-
cable.Permitted, and the reference's.
-/
import Derived.Test.YtbalhbpaholakaaCLimMath
import Derived.Test.YtbalhbpaholakaaGLRefA
import Derived.Deep.QuietTactic
import Derived.BigQuiet
import Derived.IntWalk
import Derived.Laws.EntriesVeiled
import Derived.Deep.RegionHeld3
namespace Go.Proofs.Ytbalhbpaholakaa
open Go.RowKit
set_option linter.unusedVariables false
set_option linter.unusedSimpArgs false
theorem cbInside_any (n a b : Int) (w : World) : Calls Try.prog 91 #[.int .i64 n, .int .i64 a, .int .i64 b] w fun e w' => e = .returned (.bool (decide (a ≤ n) && decide (n ≤ b))) ∧ w' = w := by
  go_enter Try.func91, Try.ntmps91
  by_cases h : a ≤ n
  · go_wp2
    go_ret
    exact ⟨ret_bool (by simp [h]), rfl⟩
  · go_wp2
    go_ret
    exact ⟨ret_bool (by rw [decide_eq_false (by omega)]; rfl), rfl⟩
theorem cbInside_yes (n a b : Int) (h1 : a ≤ n) (h2 : n ≤ b) (w : World) : Calls Try.prog 91 #[.int .i64 n, .int .i64 a, .int .i64 b] w fun e w' => e = .returned (.bool true) ∧ w' = w := by
  refine (cbInside_any n a b w).mono ?_
  rintro e w' ⟨rfl, rfl⟩
  exact ⟨ret_bool (by simp [h1, h2]), rfl⟩
theorem eq_cable (a m g l d : Int) (W : World) : (Op.equalIn 10000 53 (.agg #[.int .i64 a, .int .i64 m, .int .i64 g, .int .i64 l, .int .i64 d]) (.agg #[.int .i64 0, .int .i64 0, .int .i64 0, .int .i64 0, .int .i64 0])).run Try.prog W = .ok (decide (a = 0 ∧ m = 0 ∧ g = 0 ∧ l = 0 ∧ d = 0)) W := by
  go_simp
  by_cases h0 : a = 0 <;> by_cases h1 : m = 0 <;> by_cases h2 : g = 0 <;> by_cases h3 : l = 0 <;> by_cases h4 : d = 0 <;> simp [h0, h1, h2, h3, h4]
set_option maxRecDepth 100000 in
set_option maxHeartbeats 4000000 in
theorem cbValid_ok (c : GCon) (hc : OkC c) (w : World) : Calls Try.prog 64 #[.agg #[.int .i64 c.amb, .int .i64 c.most, .int .i64 c.gain, .int .i64 c.loss, .int .i64 c.den]] w fun e w' => e = .returned (.bool true) ∧ Below w.heap.size w w' := by
  have HB : Hid (Below w.heap.size w (w.alloc (.cells #[.int .i64 c.amb, .int .i64 c.most, .int .i64 c.gain, .int .i64 c.loss, .int .i64 c.den] 53))) := Lib.hid ((Below.refl _ w).alloc (Nat.le_refl _) _)
  have hq0 := fun W => eq_cable c.amb c.most c.gain c.loss c.den W
  have hz : decide (c.amb = 0 ∧ c.most = 0 ∧ c.gain = 0 ∧ c.loss = 0 ∧ c.den = 0) = zC c := rfl
  rw [hz] at hq0
  clear hz
  go_enter Try.func64, Try.ntmps64
  cases hzc : zC c
  · rw [hzc] at hq0
    rcases hc.cab with h | ⟨⟨a1, a2⟩, ⟨b1, b2⟩, ⟨g1, g2⟩, ⟨l1, l2⟩, ⟨e1, e2⟩, f⟩
    · rw [hzc] at h; cases h
    clear hzc hc
    go_wp2_with fail
    refine (cbInside_yes _ _ _ a1 a2 _).mono ?_
    rintro e w1 ⟨rfl, hw⟩
    subst w1
    go_wp2_with fail
    refine (cbInside_yes _ _ _ g1 g2 _).mono ?_
    rintro e w1 ⟨rfl, hw⟩
    subst w1
    go_wp2_with fail
    refine (cbInside_yes _ _ _ l1 l2 _).mono ?_
    rintro e w1 ⟨rfl, hw⟩
    subst w1
    go_wp2_with fail
    refine (cbInside_yes _ _ _ e1 e2 _).mono ?_
    rintro e w1 ⟨rfl, hw⟩
    subst w1
    go_wp2_with fail
    go_ret
    exact ⟨rfl, HB.out⟩
  · rw [hzc] at hq0
    go_wp2_with fail
    go_ret
    exact ⟨rfl, HB.out⟩
/-- A cable with its temperature, in memory. -/
structure WarmM (W : World) (b : Nat) (c : GCon) : Prop where
  k0 : W.cell? ⟨b, 0, none⟩ = some (.int .i64 c.amb)
  k1 : W.cell? ⟨b, 1, none⟩ = some (.int .i64 c.most)
  k2 : W.cell? ⟨b, 2, none⟩ = some (.int .i64 c.gain)
  k3 : W.cell? ⟨b, 3, none⟩ = some (.int .i64 c.loss)
  k4 : W.cell? ⟨b, 4, none⟩ = some (.int .i64 c.den)
set_option maxRecDepth 100000 in
theorem cbNone_any (b : Nat) (c : GCon) (w : World) (h : WarmM w b c) : Calls Try.prog 92 #[.pointer (some ⟨b, 0, none⟩)] w fun e w' => e = .returned (.bool (zC c)) ∧ w' = w := by
  obtain ⟨k0, k1, k2, k3, k4⟩ := h
  have hq0 := fun W => eq_cable c.amb c.most c.gain c.loss c.den W
  have hz : decide (c.amb = 0 ∧ c.most = 0 ∧ c.gain = 0 ∧ c.loss = 0 ∧ c.den = 0) = zC c := rfl
  rw [hz] at hq0
  clear hz
  go_enter Try.func92, Try.ntmps92
  go_wp2
  go_ret
  exact ⟨rfl, rfl⟩
set_option maxRecDepth 100000 in
theorem cbLoss_any (b : Nat) (c : GCon) (w : World) (h : WarmM w b c) : Calls Try.prog 94 #[.pointer (some ⟨b, 0, none⟩)] w fun e w' => e = .returned (.int .i64 (min c.loss c.den)) ∧ ∃ q, w' = w.drewN q := by
  obtain ⟨k0, k1, k2, k3, k4⟩ := h
  go_enter Try.func94, Try.ntmps94
  go_wp2_with fail
  go_quiet (fail)
  go_wp2_with fail
  all_goals
    go_ret
    exact ⟨ret_int (by omega), _, rfl⟩
set_option maxRecDepth 100000 in
theorem cbPerm1_any (p b r : Nat) (c : GCon) (room : Int) (n : Nat) (hn : n ≤ 1000) (hg : 0 ≤ c.gain ∧ c.gain ≤ 1000) (w : World) (hp : w.cell? ⟨p, 0, none⟩ = some (.pointer (some ⟨b, 0, none⟩))) (h : WarmM w b c) (hr : w.cell? ⟨r, 0, none⟩ = some (.int .i64 room)) :
    Calls Try.prog 108 #[.int .i64 (n : Nat), .pointer (some ⟨p, 0, none⟩), .pointer (some ⟨r, 0, none⟩)] w fun e w' => e = .returned (.bool (okAm c.gain room n)) ∧ ∃ q, w' = w.drewN q := by
  obtain ⟨k0, k1, k2, k3, k4⟩ := h
  have h1 : c.gain * (n : Int) ≤ 1000 * (n : Int) := Int.mul_le_mul_of_nonneg_right hg.2 (by omega)
  have h1' : 0 ≤ c.gain * (n : Int) := Int.mul_nonneg hg.1 (by omega)
  have h2 : c.gain * (n : Int) * (n : Int) ≤ 1000000 * (n : Int) := Int.mul_le_mul_of_nonneg_right (by omega) (by omega)
  have h2' : 0 ≤ c.gain * (n : Int) * (n : Int) := Int.mul_nonneg h1' (by omega)
  have w1 : IntKind.i64.wrap (c.gain * (n : Int)) = c.gain * (n : Int) := IntWalk.i64_in _ (by omega)
  have w2 : IntKind.i64.wrap (c.gain * (n : Int) * (n : Int)) = c.gain * (n : Int) * (n : Int) := IntWalk.i64_in _ (by omega)
  go_enter Try.func108, Try.ntmps108
  go_wp2_with fail
  go_quiet (fail)
  go_wp2_with fail
  go_ret
  exact ⟨rfl, _, rfl⟩
set_option maxRecDepth 100000 in
set_option maxHeartbeats 4000000 in
theorem cbGreat_any (p b r : Nat) (c : GCon) (room : Int) (h0 : 0 ≤ room) (hg : 0 ≤ c.gain ∧ c.gain ≤ 1000) (w : World) (hp : w.cell? ⟨p, 0, none⟩ = some (.pointer (some ⟨b, 0, none⟩))) (h : WarmM w b c) (hr : w.cell? ⟨r, 0, none⟩ = some (.int .i64 room)) :
    Calls Try.prog 107 #[.int .i64 0, .int .i64 1000, .func (.func 108) #[] #[.pointer (some ⟨p, 0, none⟩), .pointer (some ⟨r, 0, none⟩)]] w fun e w' => e = .returned (.int .i64 (grN c.gain room 1000 : Nat)) ∧ ∃ q, w' = w.drewN q := by
  have HW := Lib.hid h
  have HP := Lib.hid hp
  have HR := Lib.hid hr
  clear h hp hr
  go_enter Try.func107, Try.ntmps107
  go_wp2_with fail
  go_loopg [0, 1, 7] 1001 (fun g1 v0 v1 v7 wr => ∃ lo hi : Nat, v0 = .int .i64 (lo : Nat) ∧ v1 = .int .i64 (hi : Nat) ∧ lo ≤ hi ∧ hi ≤ 1000 ∧ hi - lo < g1 ∧ Hid (okAm c.gain room lo = true ∧ ∀ m, hi < m → m ≤ 1000 → okAm c.gain room m = false) ∧ Hid (∃ q, wr = w.drewN q))
  case atStart => exact ⟨0, 1000, by go_num, by go_num, by omega, by omega, by omega, Lib.hid ⟨okAm_zero h0, fun m h1 h2 => by omega⟩, Lib.hid ⟨0, rfl⟩⟩
  case round =>
    obtain ⟨lo, hi, rfl, rfl, hl, hh, hg1, HI, HQ⟩ := hrel
    obtain ⟨q, hq⟩ := HQ.out
    subst hq
    by_cases hlt : lo < hi
    · have hltz : (lo : Int) < (hi : Int) := by omega
      obtain ⟨mid, hm, h1, h2⟩ : ∃ mid : Nat, (lo : Int) + ((hi : Int) - lo + 1) / 2 = (mid : Int) ∧ lo < mid ∧ mid ≤ hi := ⟨lo + (hi - lo + 1) / 2, by omega, by omega, by omega⟩
      have HC := Lib.hid (cbPerm1_any p b r c room mid (by omega) hg (w.drewN q) HP.out (show WarmM (w.drewN q) b c from ⟨HW.out.k0, HW.out.k1, HW.out.k2, HW.out.k3, HW.out.k4⟩) HR.out)
      have HMD := Lib.hid hm
      clear hm
      go_wp2_with fail
      rw [HMD.out]
      refine HC.out.mono ?_
      rintro e w1 ⟨rfl, q2, hw⟩
      subst w1
      cases hok : okAm c.gain room mid
      · have HI2 : Hid (okAm c.gain room lo = true ∧ ∀ m, mid - 1 < m → m ≤ 1000 → okAm c.gain room m = false) := Lib.hid ⟨HI.out.1, fun m h3 h4 => by
          cases hm : okAm c.gain room m
          · rfl
          · have := okAm_down hg.1 (show mid ≤ m by omega) hm
            rw [hok] at this
            cases this⟩
        clear hok
        go_wp2_with fail
        go_roundg (mid - 1 - lo + 1)
        case measure => omega
        case rel => exact ⟨lo, mid - 1, rfl, val_int (by omega), by omega, by omega, by omega, HI2, Lib.hid ⟨_, rfl⟩⟩
      · have HI2 : Hid (okAm c.gain room mid = true ∧ ∀ m, hi < m → m ≤ 1000 → okAm c.gain room m = false) := Lib.hid ⟨hok, HI.out.2⟩
        clear hok
        go_wp2_with fail
        go_roundg (hi - mid + 1)
        case measure => omega
        case rel => exact ⟨mid, hi, rfl, rfl, by omega, by omega, by omega, HI2, Lib.hid ⟨_, rfl⟩⟩
    · have hltz : ¬ (lo : Int) < (hi : Int) := by omega
      have hle : lo = hi := by omega
      subst hle
      have HE : Hid (((lo : Nat) : Int) = (grN c.gain room 1000 : Nat)) := Lib.hid (by rw [grN_eq hh HI.out.1 HI.out.2 h0])
      go_wp2_with fail
      go_ret
      exact ⟨ret_int HE.out, _, rfl⟩
set_option maxRecDepth 100000 in
set_option maxHeartbeats 4000000 in
theorem r7Valid_ok (c : GCon) (hc : OkC c) (w : World) : Calls Try.prog 109 #[.agg #[.int .i64 c.amb, .int .i64 c.most, .int .i64 c.gain, .int .i64 c.loss, .int .i64 c.den]] w fun e w' => e = .returned (.bool true) ∧ Below w.heap.size w w' := by
  have HB : Hid (Below w.heap.size w (w.alloc (.cells #[.int .i64 c.amb, .int .i64 c.most, .int .i64 c.gain, .int .i64 c.loss, .int .i64 c.den] 53))) := Lib.hid ((Below.refl _ w).alloc (Nat.le_refl _) _)
  have hq0 := fun W => eq_cable c.amb c.most c.gain c.loss c.den W
  have hz : decide (c.amb = 0 ∧ c.most = 0 ∧ c.gain = 0 ∧ c.loss = 0 ∧ c.den = 0) = zC c := rfl
  rw [hz] at hq0
  clear hz
  go_enter Try.func109, Try.ntmps109
  cases hzc : zC c
  · rw [hzc] at hq0
    rcases hc.cab with h | ⟨⟨a1, a2⟩, ⟨b1, b2⟩, ⟨g1, g2⟩, ⟨l1, l2⟩, ⟨e1, e2⟩, f⟩
    · rw [hzc] at h; cases h
    clear hzc hc
    go_wp2_with fail
    go_ret
    exact ⟨rfl, HB.out⟩
  · rw [hzc] at hq0
    go_wp2_with fail
    go_ret
    exact ⟨rfl, HB.out⟩
set_option maxRecDepth 100000 in
set_option maxHeartbeats 4000000 in
theorem r7Perm_ok (c : GCon) (hc : OkC c) (w : World) : Calls Try.prog 82 #[.agg #[.int .i64 c.amb, .int .i64 c.most, .int .i64 c.gain, .int .i64 c.loss, .int .i64 c.den]] w fun e w' => e = .returned (.tuple #[.int .i64 (permV c), .int .i64 0]) ∧ Below w.heap.size w w' := by
  obtain ⟨W, hW⟩ : ∃ W, W = w.alloc (.cells #[.int .i64 c.amb, .int .i64 c.most, .int .i64 c.gain, .int .i64 c.loss, .int .i64 c.den] 53) := ⟨_, rfl⟩
  have bw : Below w.heap.size w W := by rw [hW]; exact (Below.refl _ w).alloc (Nat.le_refl _) _
  have k0 : W.cell? ⟨w.heap.size, 0, none⟩ = some (.int .i64 c.amb) := by rw [hW]; go_simp
  have k1 : W.cell? ⟨w.heap.size, 1, none⟩ = some (.int .i64 c.most) := by rw [hW]; go_simp
  have k2 : W.cell? ⟨w.heap.size, 2, none⟩ = some (.int .i64 c.gain) := by rw [hW]; go_simp
  have k3 : W.cell? ⟨w.heap.size, 3, none⟩ = some (.int .i64 c.loss) := by rw [hW]; go_simp
  have k4 : W.cell? ⟨w.heap.size, 4, none⟩ = some (.int .i64 c.den) := by rw [hW]; go_simp
  have hs : w.heap.size < W.heap.size := by rw [hW]; simp
  have hq0 := fun W => eq_cable c.amb c.most c.gain c.loss c.den W
  have hz : decide (c.amb = 0 ∧ c.most = 0 ∧ c.gain = 0 ∧ c.loss = 0 ∧ c.den = 0) = zC c := rfl
  rw [hz] at hq0
  clear hz
  have HWQ := Lib.hid hW.symm
  have HV := Lib.hid (r7Valid_ok c hc W)
  have HB := Lib.hid bw
  clear hW bw
  go_enter Try.func82, Try.ntmps82
  go_wp2_with fail
  rw [HWQ.out]
  refine HV.out.mono ?_
  rintro e w1 ⟨rfl, hb⟩
  have q0 := (hb.cell (p := ⟨w.heap.size, 0, none⟩) hs).trans k0
  have q1 := (hb.cell (p := ⟨w.heap.size, 1, none⟩) hs).trans k1
  have q2 := (hb.cell (p := ⟨w.heap.size, 2, none⟩) hs).trans k2
  have q3 := (hb.cell (p := ⟨w.heap.size, 3, none⟩) hs).trans k3
  have q4 := (hb.cell (p := ⟨w.heap.size, 4, none⟩) hs).trans k4
  have HB1 := Lib.hid (below_then HB.out hb)
  clear hb k0 k1 k2 k3 k4 HV HB hs HWQ
  cases hzc : zC c
  case true =>
    rw [hzc] at hq0
    have HE : Hid ((1000 : Int) = permV c) := Lib.hid (by unfold permV; rw [if_pos hzc])
    go_wp2_with fail
    refine bodyPost_ret (results_tmp2 rfl _ _ _) rfl ?_
    exact ⟨by rw [← HE.out]; rfl, HB1.out⟩
  case false =>
    rw [hzc] at hq0
    obtain ⟨r1, r2, g1, g2⟩ := hc.room hzc
    have HE : Hid (((grN c.gain (roomC c) 1000 : Nat) : Int) = permV c) := Lib.hid (by unfold permV; rw [hzc]; rfl)
    rcases hc.cab with h | ⟨⟨a1, a2⟩, ⟨b1, b2⟩, _, ⟨l1, l2⟩, ⟨e1, e2⟩, f⟩
    · rw [hzc] at h; cases h
    have hrr : (c.loss ≤ c.den ∧ IntKind.i64.wrap (c.loss * (c.most - c.amb)) = roomC c) ∨ (c.den < c.loss ∧ IntKind.i64.wrap (c.den * (c.most - c.amb)) = roomC c) := by
      unfold roomC at *
      rcases Int.lt_or_le c.den c.loss with h | h
      · right
        rw [show min c.loss c.den = c.den by omega] at *
        exact ⟨h, IntWalk.i64_in _ (by omega)⟩
      · left
        rw [show min c.loss c.den = c.loss by omega] at *
        exact ⟨h, IntWalk.i64_in _ (by omega)⟩
    have hsm : IntKind.i64.wrap (c.most - c.amb) = c.most - c.amb := IntWalk.i64_in _ (by omega)
    clear hzc hc
    rcases hrr with ⟨hml, hrw⟩ | ⟨hml, hrw⟩
    all_goals
      go_wp2_with fail
      go_loopg [4] 1001 (fun g1 v4 wr => ∃ i : Nat, v4 = .int .i64 i ∧ i ≤ 1000 ∧ 1000 - i < g1 ∧ Hid (okAm c.gain (roomC c) i = true) ∧ w1 = wr)
      case atStart => exact ⟨0, by go_num, by omega, by omega, Lib.hid (okAm_zero r1), rfl⟩
      case round =>
        obtain ⟨i, rfl, hi, hg1, HI, rfl⟩ := hrel
        by_cases hlt : i < 1000
        · have hltz : (i : Int) < 1000 := by omega
          have h1 : c.gain * ((i + 1 : Nat) : Int) ≤ 1000 * ((i + 1 : Nat) : Int) := Int.mul_le_mul_of_nonneg_right g2 (by omega)
          have h1' : 0 ≤ c.gain * ((i + 1 : Nat) : Int) := Int.mul_nonneg g1 (by omega)
          have h2 : c.gain * ((i + 1 : Nat) : Int) * ((i + 1 : Nat) : Int) ≤ 1000000 * ((i + 1 : Nat) : Int) := Int.mul_le_mul_of_nonneg_right (by omega) (by omega)
          have h2' : 0 ≤ c.gain * ((i + 1 : Nat) : Int) * ((i + 1 : Nat) : Int) := Int.mul_nonneg h1' (by omega)
          have e1 : ((i + 1 : Nat) : Int) = (i : Int) + 1 := by omega
          rw [e1] at h1 h1' h2 h2'
          have w1' : IntKind.i64.wrap (c.gain * ((i : Int) + 1)) = c.gain * ((i : Int) + 1) := IntWalk.i64_in _ (by omega)
          have w2' : IntKind.i64.wrap (c.gain * ((i : Int) + 1) * ((i : Int) + 1)) = c.gain * ((i : Int) + 1) * ((i : Int) + 1) := IntWalk.i64_in _ (by omega)
          have hdec : decide (c.gain * ((i : Int) + 1) * ((i : Int) + 1) ≤ roomC c) = okAm c.gain (roomC c) (i + 1) := by unfold okAm; rw [e1]
          clear h1 h1' h2 h2' e1
          cases hok : okAm c.gain (roomC c) (i + 1)
          · rw [hok] at hdec
            have HF : Hid (((i : Nat) : Int) = permV c) := Lib.hid (by
              rw [← HE.out, grN_eq (k := i) (by omega) HI.out (fun m h3 h4 => by
                cases hm : okAm c.gain (roomC c) m
                · rfl
                · have := okAm_down g1 (show i + 1 ≤ m by omega) hm
                  rw [hok] at this
                  cases this) r1])
            clear hok
            go_wp2_with fail
            refine bodyPost_ret (results_tmp2 rfl _ _ _) rfl ?_
            exact ⟨by rw [← HF.out]; rfl, HB1.out⟩
          · rw [hok] at hdec
            have HI2 := Lib.hid hok
            clear hok
            go_wp2_with fail
            go_roundg (1000 - (i + 1) + 1)
            case measure => omega
            case rel => exact ⟨i + 1, by go_num, by omega, by omega, HI2, rfl⟩
        · have hltz : ¬ (i : Int) < 1000 := by omega
          have hi1 : i = 1000 := by omega
          subst hi1
          have HF : Hid ((1000 : Int) = permV c) := Lib.hid (by
            rw [← HE.out]
            have := grN_most HI.out 1000 (Nat.le_refl _)
            have := grN_le c.gain (roomC c) 1000
            omega)
          go_wp2_with fail
          refine bodyPost_ret (results_tmp2 rfl _ _ _) rfl ?_
          exact ⟨by rw [← HF.out]; rfl, HB1.out⟩
end Go.Proofs.Ytbalhbpaholakaa
