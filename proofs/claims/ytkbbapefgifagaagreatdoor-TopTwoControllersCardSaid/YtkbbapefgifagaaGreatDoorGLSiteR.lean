/-
Several texts in one: SiteRd, SiteB, SiteA.
-/
import Derived.Test.YtkbbapefgifagaaGreatDoorGLApp
import Derived.Test.YtkbbapefgifagaaGreatDoorGLSM
/-
How a site is read: its five slices.
-/
namespace Go.Proofs.YtkbbapefgifagaaGreatDoor
open Go.RowKit
set_option linter.unusedVariables false
set_option linter.unusedSimpArgs false
def encCon (c : GCon) : List Value := [.string c.name, .int .i64 c.up, .int .i64 c.limit, .int .i64 c.neutral, .int .i64 c.rated, .int .i64 c.heat, .int .i64 c.amb, .int .i64 c.most, .int .i64 c.gain, .int .i64 c.loss, .int .i64 c.den]
theorem encCon_len (c : GCon) : (encCon c).length = 11 := rfl
def encCtr (c : GCtr) : List Value := [.string c.name, .int .i64 c.own, .int .i64 c.rank, .int .i64 c.card]
def encChg (c : GChg) : List Value := [.string c.name, .int .i64 c.place, .int .i64 c.ph, .int .i64 c.mn, .int .i64 c.mx, .int .i64 c.step, .int .i64 c.fb, .int .i64 c.own]
theorem encChg_len (c : GChg) : (encChg c).length = 8 := rfl
def encBay (c : GBay) : List Value := [.string c.name, .int .i64 c.chg]
theorem rdCon_at {w : World} {A : Option Addr} {cs : List GCon} (h : Rd 11 encCon w A cs) {k : Nat} (hk : k < cs.length) :
    ∃ b off c, A = some ⟨b, off, none⟩ ∧ b < w.heap.size ∧ cs[k]? = some c ∧ w.cell? ⟨b, off + k * 11, none⟩ = some (.string c.name) ∧ w.cell? ⟨b, off + k * 11 + 1, none⟩ = some (.int .i64 c.up) ∧ w.cell? ⟨b, off + k * 11 + 2, none⟩ = some (.int .i64 c.limit) ∧ w.cell? ⟨b, off + k * 11 + 3, none⟩ = some (.int .i64 c.neutral) ∧ w.cell? ⟨b, off + k * 11 + 4, none⟩ = some (.int .i64 c.rated) ∧ w.cell? ⟨b, off + k * 11 + 5, none⟩ = some (.int .i64 c.heat) ∧ w.cell? ⟨b, off + k * 11 + 6, none⟩ = some (.int .i64 c.amb) ∧ w.cell? ⟨b, off + k * 11 + 7, none⟩ = some (.int .i64 c.most) ∧ w.cell? ⟨b, off + k * 11 + 8, none⟩ = some (.int .i64 c.gain) ∧ w.cell? ⟨b, off + k * 11 + 9, none⟩ = some (.int .i64 c.loss) ∧ w.cell? ⟨b, off + k * 11 + 10, none⟩ = some (.int .i64 c.den) := by
  obtain ⟨b, off, e, hA, hlt, hx, hc⟩ := h.at_ hk
  exact ⟨b, off, e, hA, hlt, hx, hc 0 _ rfl, hc 1 _ rfl, hc 2 _ rfl, hc 3 _ rfl, hc 4 _ rfl, hc 5 _ rfl, hc 6 _ rfl, hc 7 _ rfl, hc 8 _ rfl, hc 9 _ rfl, hc 10 _ rfl⟩
theorem rdOwn_at {w : World} {A : Option Addr} {cs : List ByteArray} (h : Rd 1 encS w A cs) {k : Nat} (hk : k < cs.length) :
    ∃ b off c, A = some ⟨b, off, none⟩ ∧ b < w.heap.size ∧ cs[k]? = some c ∧ w.cell? ⟨b, off + k, none⟩ = some (.string c) := by
  obtain ⟨b, off, e, hA, hlt, hx, hc⟩ := h.at_ hk
  exact ⟨b, off, e, hA, hlt, hx, by have := hc 0 _ rfl; simpa using this⟩
theorem rdCtr_at {w : World} {A : Option Addr} {cs : List GCtr} (h : Rd 4 encCtr w A cs) {k : Nat} (hk : k < cs.length) :
    ∃ b off c, A = some ⟨b, off, none⟩ ∧ b < w.heap.size ∧ cs[k]? = some c ∧ w.cell? ⟨b, off + k * 4, none⟩ = some (.string c.name) ∧ w.cell? ⟨b, off + k * 4 + 1, none⟩ = some (.int .i64 c.own) ∧ w.cell? ⟨b, off + k * 4 + 2, none⟩ = some (.int .i64 c.rank) ∧ w.cell? ⟨b, off + k * 4 + 3, none⟩ = some (.int .i64 c.card) := by
  obtain ⟨b, off, e, hA, hlt, hx, hc⟩ := h.at_ hk
  exact ⟨b, off, e, hA, hlt, hx, hc 0 _ rfl, hc 1 _ rfl, hc 2 _ rfl, hc 3 _ rfl⟩
theorem rdChg_at {w : World} {A : Option Addr} {cs : List GChg} (h : Rd 8 encChg w A cs) {k : Nat} (hk : k < cs.length) :
    ∃ b off c, A = some ⟨b, off, none⟩ ∧ b < w.heap.size ∧ cs[k]? = some c ∧ w.cell? ⟨b, off + k * 8, none⟩ = some (.string c.name) ∧ w.cell? ⟨b, off + k * 8 + 1, none⟩ = some (.int .i64 c.place) ∧ w.cell? ⟨b, off + k * 8 + 2, none⟩ = some (.int .i64 c.ph) ∧ w.cell? ⟨b, off + k * 8 + 3, none⟩ = some (.int .i64 c.mn) ∧ w.cell? ⟨b, off + k * 8 + 4, none⟩ = some (.int .i64 c.mx) ∧ w.cell? ⟨b, off + k * 8 + 5, none⟩ = some (.int .i64 c.step) ∧ w.cell? ⟨b, off + k * 8 + 6, none⟩ = some (.int .i64 c.fb) ∧ w.cell? ⟨b, off + k * 8 + 7, none⟩ = some (.int .i64 c.own) := by
  obtain ⟨b, off, e, hA, hlt, hx, hc⟩ := h.at_ hk
  exact ⟨b, off, e, hA, hlt, hx, hc 0 _ rfl, hc 1 _ rfl, hc 2 _ rfl, hc 3 _ rfl, hc 4 _ rfl, hc 5 _ rfl, hc 6 _ rfl, hc 7 _ rfl⟩
theorem rdBay_at {w : World} {A : Option Addr} {cs : List GBay} (h : Rd 2 encBay w A cs) {k : Nat} (hk : k < cs.length) :
    ∃ b off c, A = some ⟨b, off, none⟩ ∧ b < w.heap.size ∧ cs[k]? = some c ∧ w.cell? ⟨b, off + k * 2, none⟩ = some (.string c.name) ∧ w.cell? ⟨b, off + k * 2 + 1, none⟩ = some (.int .i64 c.chg) := by
  obtain ⟨b, off, e, hA, hlt, hx, hc⟩ := h.at_ hk
  exact ⟨b, off, e, hA, hlt, hx, hc 0 _ rfl, hc 1 _ rfl⟩
/-- A site in memory. -/
structure RdSite (w : World) (a1 a2 a3 a4 a5 : Option Addr) (n1 n2 n3 n4 n5 : Nat) (s : GSite) : Prop where
  r1 : Rd 11 encCon w a1 s.cons
  r2 : Rd 1 encS w a2 s.owns
  r3 : Rd 4 encCtr w a3 s.ctrs
  r4 : Rd 8 encChg w a4 s.chgs
  r5 : Rd 2 encBay w a5 s.bays
  l1 : s.cons.length = n1
  l2 : s.owns.length = n2
  l3 : s.ctrs.length = n3
  l4 : s.chgs.length = n4
  l5 : s.bays.length = n5
  m1 : n1 ≤ 9223372036854775807
  m2 : n2 ≤ 9223372036854775807
  m3 : n3 ≤ 9223372036854775807
  m4 : n4 ≤ 9223372036854775807
  m5 : n5 ≤ 9223372036854775807
  nm : ∀ x, x ∈ allNames s → x.size ≤ maxLen
theorem RdSite.keep {w w' : World} {a1 a2 a3 a4 a5 : Option Addr} {n1 n2 n3 n4 n5 : Nat} {s : GSite} (h : RdSite w a1 a2 a3 a4 a5 n1 n2 n3 n4 n5 s) (hb : Below w.heap.size w w') : RdSite w' a1 a2 a3 a4 a5 n1 n2 n3 n4 n5 s :=
  ⟨h.r1.keep hb, h.r2.keep hb, h.r3.keep hb, h.r4.keep hb, h.r5.keep hb, h.l1, h.l2, h.l3, h.l4, h.l5, h.m1, h.m2, h.m3, h.m4, h.m5, h.nm⟩
end Go.Proofs.YtkbbapefgifagaaGreatDoor
/-
A site's ranges; walked.
-/
namespace Go.Proofs.YtkbbapefgifagaaGreatDoor
open Go.RowKit
set_option linter.unusedVariables false
set_option linter.unusedSimpArgs false
set_option maxRecDepth 100000 in
theorem stHolds_any (a b n : Int) (w : World) : Calls Tryz.prog 112 #[.agg #[.int .i64 a, .int .i64 b], .int .i64 n] w fun e w' => e = .returned (.bool (inside n a b)) ∧ w' = w.alloc (.cells #[.int .i64 a, .int .i64 b] 203) := by
  by_cases h : a ≤ n
  · by_cases h2 : n ≤ b
    · have HF : Hid (inside n a b = true) := Lib.hid (inside_iff.2 ⟨h, h2⟩)
      go_enter Tryz.func112, Tryz.ntmps112
      go_wp2_with fail
      go_ret
      exact ⟨ret_bool HF.out.symm, rfl⟩
    · have HF : Hid (inside n a b = false) := Lib.hid (by cases e : inside n a b; rfl; exact absurd (inside_iff.1 e).2 h2)
      have h3 : ¬ n ≤ b := h2
      go_enter Tryz.func112, Tryz.ntmps112
      go_wp2_with fail
      go_ret
      exact ⟨ret_bool HF.out.symm, rfl⟩
  · have HF : Hid (inside n a b = false) := Lib.hid (by cases e : inside n a b; rfl; exact absurd (inside_iff.1 e).1 h)
    go_enter Tryz.func112, Tryz.ntmps112
    go_wp2_with fail
    go_ret
    exact ⟨ret_bool HF.out.symm, rfl⟩
set_option maxRecDepth 100000 in
theorem stCable_any (a m g l d : Int) (w : World) : Calls Tryz.prog 122 #[.agg #[.int .i64 a, .int .i64 m, .int .i64 g, .int .i64 l, .int .i64 d]] w fun e w' => e = .returned (.bool (decide (a < m))) ∧ w' = w.alloc (.cells #[.int .i64 a, .int .i64 m, .int .i64 g, .int .i64 l, .int .i64 d] 70) := by
  go_enter Tryz.func122, Tryz.ntmps122
  go_wp2_with fail
  go_ret
  exact ⟨rfl, rfl⟩
def ampsB (c : GChg) : Bool := decide (c.mn ≤ c.mx) && (decide (c.fb = 0) || (decide (c.mn ≤ c.fb) && decide (c.fb ≤ c.mx)))
set_option maxRecDepth 100000 in
set_option maxHeartbeats 4000000 in
theorem stAmps_any (c : GChg) (w : World) : Calls Tryz.prog 123 #[.agg #[.string c.name, .int .i64 c.place, .int .i64 c.ph, .int .i64 c.mn, .int .i64 c.mx, .int .i64 c.step, .int .i64 c.fb, .int .i64 c.own]] w fun e w' => e = .returned (.bool (ampsB c)) ∧ w' = w.alloc (.cells #[.string c.name, .int .i64 c.place, .int .i64 c.ph, .int .i64 c.mn, .int .i64 c.mx, .int .i64 c.step, .int .i64 c.fb, .int .i64 c.own] 59) := by
  obtain ⟨z, hz⟩ : ∃ z, (c.fb == 0) = z := ⟨_, rfl⟩
  have HZ : Hid (z = decide (c.fb = 0)) := Lib.hid (by rw [← hz]; rfl)
  cases z
  all_goals
    go_enter Tryz.func123, Tryz.ntmps123
    go_wp2_with fail
  all_goals
    go_ret
    exact ⟨ret_bool (by unfold ampsB; rw [← HZ.out]; first | (simp_all; done) | (rw [Bool.eq_iff_iff]; simp; omega)), rfl⟩
/-- The eleven values of a conductor. -/
def okConB (i : Int) (c : GCon) : Bool := decide ((i = 0 → c.up = -1) ∧ (0 < i → 0 ≤ c.up ∧ c.up < i)) && (inside c.limit 1 1000 && inside c.neutral 1 1000) && okFuse c && okCable c
set_option maxRecDepth 100000 in
set_option maxHeartbeats 8000000 in
theorem stCon_any (c : GCon) (i : Int) (w : World) : Calls Tryz.prog 111 #[.agg #[.string c.name, .int .i64 c.up, .int .i64 c.limit, .int .i64 c.neutral, .int .i64 c.rated, .int .i64 c.heat, .int .i64 c.amb, .int .i64 c.most, .int .i64 c.gain, .int .i64 c.loss, .int .i64 c.den], .int .i64 i] w fun e w' => e = .returned (.bool (okConB i c)) ∧ Below w.heap.size w w' := by
  by_cases hup : (i = 0 → c.up = -1) ∧ (0 < i → 0 ≤ c.up ∧ c.up < i)
  case neg =>
    have HF : Hid (okConB i c = false) := Lib.hid (by unfold okConB; rw [decide_eq_false hup]; simp)
    go_enter Tryz.func111, Tryz.ntmps111
    go_wp2_with fail
    all_goals
      go_ret
      exact ⟨ret_bool HF.out.symm, (Below.refl _ w).alloc (Nat.le_refl _) _⟩
  case pos =>
    have HE : Hid (okConB i c = ((inside c.limit 1 1000 && inside c.neutral 1 1000) && okFuse c && okCable c)) := Lib.hid (by unfold okConB; rw [decide_eq_true hup]; simp)
    obtain ⟨W0, hW0⟩ : ∃ W0, W0 = w.alloc (.cells #[.string c.name, .int .i64 c.up, .int .i64 c.limit, .int .i64 c.neutral, .int .i64 c.rated, .int .i64 c.heat, .int .i64 c.amb, .int .i64 c.most, .int .i64 c.gain, .int .i64 c.loss, .int .i64 c.den] 72) := ⟨_, rfl⟩
    have b0 : Below w.heap.size w W0 := by rw [hW0]; exact (Below.refl _ w).alloc (Nat.le_refl _) _
    have ho : Own W0 w.heap.size 72 11 (fun j => (encCon c)[j]?.getD undef) := by
      rw [hW0]
      exact Own.newAt _ _ _ _ rfl (n := 11) rfl (fun j hj => by
        rcases j with _ | _ | _ | _ | _ | _ | _ | _ | _ | _ | _ | j
        all_goals first | rfl | omega)
    have HW0 := Lib.hid hW0.symm
    have HB0 := Lib.hid b0
    have HO := Lib.hid ho
    clear b0 ho hW0
    go_enter Tryz.func111, Tryz.ntmps111
    go_upto_region 1 with (fail)
    rw [HW0.out]
    go_cut [10, 11, 12, 13, 14, 15, 16, 17, 18, 19, 20, 21, 22, 23, 24, 25, 26, 27, 28, 29, 30, 31] (fun v10 v11 v12 v13 v14 v15 v16 v17 v18 v19 v20 v21 v22 v23 v24 v25 v26 v27 v28 v29 v30 v31 wx => v31 = .bool false ∧ Hid (wx = W0))
    case first =>
      have k1 : W0.cell? ⟨w.heap.size, 1, none⟩ = some (.int .i64 c.up) := HO.out.cell (i := 1) (by omega)
      have HUP := Lib.hid hup
      obtain ⟨z, hz⟩ : ∃ z, (i == 0) = z := ⟨_, rfl⟩
      clear hup
      cases z
      · by_cases hp : 0 < i
        · obtain ⟨h1, h2⟩ := HUP.out.2 hp
          have y1 : ¬ c.up < 0 := by omega
          have y2 : ¬ i ≤ c.up := by omega
          clear h1 h2
          go_wp2_with fail
          try go_step
          go_meet
          exact ⟨rfl, Lib.hid rfl⟩
        · go_wp2_with fail
          try go_step
          go_meet
          exact ⟨rfl, Lib.hid rfl⟩
      · have hu : (c.up != -1) = false := by
          have h0 : i = 0 := by simpa using hz
          have := HUP.out.1 h0
          simp [this]
        have hp : ¬ 0 < i := by
          have h0 : i = 0 := by simpa using hz
          omega
        go_wp2_with fail
        try go_step
        go_meet
        exact ⟨rfl, Lib.hid rfl⟩
    case rest =>
      obtain ⟨rfl, hwx⟩ := hcut
      have hwx := hwx.out.symm
      subst hwx
      clear hup
      have lw : w.heap.size < W0.heap.size := HO.out.lt
      have k2 : W0.cell? ⟨w.heap.size, 2, none⟩ = some (.int .i64 c.limit) := HO.out.cell (i := 2) (by omega)
      have k3 : W0.cell? ⟨w.heap.size, 3, none⟩ = some (.int .i64 c.neutral) := HO.out.cell (i := 3) (by omega)
      have k4 : W0.cell? ⟨w.heap.size, 4, none⟩ = some (.int .i64 c.rated) := HO.out.cell (i := 4) (by omega)
      have k5 : W0.cell? ⟨w.heap.size, 5, none⟩ = some (.int .i64 c.heat) := HO.out.cell (i := 5) (by omega)
      have k6 : W0.cell? ⟨w.heap.size, 6, none⟩ = some (.int .i64 c.amb) := HO.out.cell (i := 6) (by omega)
      have k7 : W0.cell? ⟨w.heap.size, 7, none⟩ = some (.int .i64 c.most) := HO.out.cell (i := 7) (by omega)
      have k8 : W0.cell? ⟨w.heap.size, 8, none⟩ = some (.int .i64 c.gain) := HO.out.cell (i := 8) (by omega)
      have k9 : W0.cell? ⟨w.heap.size, 9, none⟩ = some (.int .i64 c.loss) := HO.out.cell (i := 9) (by omega)
      have k10 : W0.cell? ⟨w.heap.size, 10, none⟩ = some (.int .i64 c.den) := HO.out.cell (i := 10) (by omega)
      have HW : Hid (∀ w' : World, Below W0.heap.size W0 w' → Below w.heap.size w w') := Lib.hid (fun w' h => below_then HB0.out h)
      obtain ⟨z1, hz1⟩ : ∃ z, inside c.limit 1 1000 = z := ⟨_, rfl⟩
      obtain ⟨z2, hz2⟩ : ∃ z, inside c.neutral 1 1000 = z := ⟨_, rfl⟩
      have HE2 : Hid (okConB i c = ((z1 && z2) && okFuse c && okCable c)) := Lib.hid (by rw [HE.out, hz1, hz2])
      have HZ1 := Lib.hid hz1
      have HZ2 := Lib.hid hz2
      clear hz1 hz2 HE
      go_wp2_with fail
      refine (stHolds_any 1 1000 c.limit _).mono ?_
      rw [HZ1.out]
      rintro e w1 ⟨rfl, rfl⟩
      cases z1
      · go_wp2_with fail
        go_ret
        exact ⟨ret_bool (by rw [HE2.out]; rfl), HW.out _ (((Below.refl _ _).alloc (Nat.le_refl _) _).alloc (by simp) _)⟩
      go_wp2_with fail
      refine (stHolds_any 1 1000 c.neutral _).mono ?_
      rw [HZ2.out]
      rintro e w1 ⟨rfl, rfl⟩
      cases z2
      · go_wp2_with fail
        go_ret
        exact ⟨ret_bool (by rw [HE2.out]; rfl), HW.out _ ((((Below.refl _ _).alloc (Nat.le_refl _) _).alloc (by simp) _).alloc (by simp; omega) _)⟩
      have HE3 : Hid (okConB i c = (okFuse c && okCable c)) := Lib.hid (by rw [HE2.out]; rfl)
      go_upto_region 6 with (fail)
      refine wp_world (fun X => X.cell? ⟨W0.heap.size, 0, none⟩ = some (.int .i64 1) ∧ X.cell? ⟨W0.heap.size, 1, none⟩ = some (.int .i64 1000) ∧ Below W0.heap.size W0 X ∧ W0.heap.size < X.heap.size) ⟨by go_simp, by go_simp, (((Below.refl _ _).alloc (Nat.le_refl _) _).alloc (by simp) _).alloc (by simp; omega) _, by simp; omega⟩ ?_
      rintro X ⟨s0, s1, hbx, hsx⟩
      have HBX := Lib.hid hbx
      have k4 := (hbx.cell (p := ⟨w.heap.size, 4, none⟩) lw).trans k4
      have k5 := (hbx.cell (p := ⟨w.heap.size, 5, none⟩) lw).trans k5
      have k6 := (hbx.cell (p := ⟨w.heap.size, 6, none⟩) lw).trans k6
      have k7 := (hbx.cell (p := ⟨w.heap.size, 7, none⟩) lw).trans k7
      have k8 := (hbx.cell (p := ⟨w.heap.size, 8, none⟩) lw).trans k8
      have k9 := (hbx.cell (p := ⟨w.heap.size, 9, none⟩) lw).trans k9
      have k10 := (hbx.cell (p := ⟨w.heap.size, 10, none⟩) lw).trans k10
      have hwX : w.heap.size < X.heap.size := by omega
      clear hbx HE2 HZ1 HZ2 HO
      go_cut [6, 7, 45, 46, 47, 48] (fun v6 v7 v45 v46 v47 v48 wx => ∃ bf bt : Nat, v6 = .pointer (some ⟨bf, 0, none⟩) ∧ v7 = .pointer (some ⟨bt, 0, none⟩) ∧ Hid (wx.cell? ⟨bf, 0, none⟩ = some (.int .i64 c.rated) ∧ wx.cell? ⟨bf, 1, none⟩ = some (.int .i64 c.heat) ∧ wx.cell? ⟨bt, 0, none⟩ = some (.int .i64 c.amb) ∧ wx.cell? ⟨bt, 1, none⟩ = some (.int .i64 c.most) ∧ wx.cell? ⟨bt, 2, none⟩ = some (.int .i64 c.gain) ∧ wx.cell? ⟨bt, 3, none⟩ = some (.int .i64 c.loss) ∧ wx.cell? ⟨bt, 4, none⟩ = some (.int .i64 c.den)) ∧ Hid (Below X.heap.size X wx))
      case first =>
        go_big_region
        all_goals
          go_step
          go_step
          go_meet
          exact ⟨_, _, rfl, rfl, Lib.hid ⟨by go_simp, by go_simp, by go_simp, by go_simp, by go_simp, by go_simp, by go_simp⟩, Lib.hid (((Below.refl _ _).alloc (Nat.le_refl _) _).alloc (by simp) _).drew⟩
      case rest =>
        obtain ⟨bf, bt, rfl, rfl, HCC, HBC⟩ := hcut
        obtain ⟨f0, f1, t0, t1, t2, t3, t4⟩ := HCC.out
        have lf := World.block_lt_of_cell? wc _ f0
        have lt := World.block_lt_of_cell? wc _ t0
        have sp0 := (HBC.out.cell (p := ⟨W0.heap.size, 0, none⟩) hsx).trans s0
        have sp1 := (HBC.out.cell (p := ⟨W0.heap.size, 1, none⟩) hsx).trans s1
        have hsc : W0.heap.size < wc.heap.size := Nat.lt_of_lt_of_le hsx HBC.out.size
        have HWc := Lib.hid (HW.out wc (below_then HBX.out HBC.out))
        dsimp only at lf lt
        clear HCC HBC HBX s0 s1 k2 k3 k4 k5 k6 k7 k8 k9 k10 HB0 HW0 HW lw hsx hwX
        have HF1 : Hid (inside c.rated 1 1000 = true → inside c.heat 0 1000000 = true → okFuse c = true) := Lib.hid (fun h1 h2 => by
          have := inside_iff.1 h1; have := inside_iff.1 h2; unfold okFuse; simp only [decide_eq_true_eq]; omega)
        have HF2 : Hid ((c.rated == 0) = true → (c.heat == 0) = true → okFuse c = true) := Lib.hid (fun h1 h2 => by
          simp at h1 h2; unfold okFuse; simp only [decide_eq_true_eq]; omega)
        have HF3 : Hid (((c.rated == 0) = false ∨ (c.heat == 0) = false) → (inside c.rated 1 1000 = false ∨ inside c.heat 0 1000000 = false) → okFuse c = false) := Lib.hid (fun h1 h2 => by
          unfold okFuse
          simp only [decide_eq_false_iff_not]
          rintro (⟨e1, e2⟩ | ⟨e1, e2⟩)
          · rw [e1, e2] at h1; simp at h1
          · rw [inside_iff.2 e1, inside_iff.2 e2] at h2; simp at h2)
        obtain ⟨br, hbr⟩ : ∃ z, (c.rated == 0) = z := ⟨_, rfl⟩
        obtain ⟨bh, hbh⟩ : ∃ z, (c.heat == 0) = z := ⟨_, rfl⟩
        have HBR := Lib.hid hbr
        have HBH := Lib.hid hbh
        go_upto_region 7 with (fail)
        go_cut [49, 50, 51, 52, 53, 54, 55, 56, 57, 58, 59, 60, 61, 62, 63, 64] (fun v49 v50 v51 v52 v53 v54 v55 v56 v57 v58 v59 v60 v61 v62 v63 v64 wx => v64 = .bool (!okFuse c) ∧ Hid (Below wc.heap.size wc wx))
        case first =>
          obtain ⟨z1, hz1⟩ : ∃ z, inside c.rated 1 1000 = z := ⟨_, rfl⟩
          obtain ⟨z2, hz2⟩ : ∃ z, inside c.heat 0 1000000 = z := ⟨_, rfl⟩
          have HZ1 := Lib.hid hz1
          have HZ2 := Lib.hid hz2
          clear hz1 hz2
          cases br <;> cases bh
          · go_wp2_with fail
            refine (stHolds_any 1 1000 c.rated _).mono ?_
            rw [HZ1.out]
            rintro e w1 ⟨rfl, rfl⟩
            cases z1
            · go_wp2_with fail
              try go_step
              go_meet
              exact ⟨by rw [HF3.out (by first | exact .inl HBR.out | exact .inr HBH.out) (.inl HZ1.out)]; rfl, Lib.hid (Below.alloc (Below.refl _ _) (Nat.le_refl _) _)⟩
            · go_wp2_with fail
              refine (stHolds_any 0 1000000 c.heat _).mono ?_
              rw [HZ2.out]
              rintro e w1 ⟨rfl, rfl⟩
              cases z2
              · go_wp2_with fail
                try go_step
                go_meet
                exact ⟨by rw [HF3.out (by first | exact .inl HBR.out | exact .inr HBH.out) (.inr HZ2.out)]; rfl, Lib.hid (Below.alloc (Below.alloc (Below.refl _ _) (Nat.le_refl _) _) (by first | (simp; done) | (simp; omega)) _)⟩
              · go_wp2_with fail
                try go_step
                go_meet
                exact ⟨by rw [HF1.out HZ1.out HZ2.out]; rfl, Lib.hid (Below.alloc (Below.alloc (Below.refl _ _) (Nat.le_refl _) _) (by first | (simp; done) | (simp; omega)) _)⟩
          · go_wp2_with fail
            refine (stHolds_any 1 1000 c.rated _).mono ?_
            rw [HZ1.out]
            rintro e w1 ⟨rfl, rfl⟩
            cases z1
            · go_wp2_with fail
              try go_step
              go_meet
              exact ⟨by rw [HF3.out (by first | exact .inl HBR.out | exact .inr HBH.out) (.inl HZ1.out)]; rfl, Lib.hid (Below.alloc (Below.refl _ _) (Nat.le_refl _) _)⟩
            · go_wp2_with fail
              refine (stHolds_any 0 1000000 c.heat _).mono ?_
              rw [HZ2.out]
              rintro e w1 ⟨rfl, rfl⟩
              cases z2
              · go_wp2_with fail
                try go_step
                go_meet
                exact ⟨by rw [HF3.out (by first | exact .inl HBR.out | exact .inr HBH.out) (.inr HZ2.out)]; rfl, Lib.hid (Below.alloc (Below.alloc (Below.refl _ _) (Nat.le_refl _) _) (by first | (simp; done) | (simp; omega)) _)⟩
              · go_wp2_with fail
                try go_step
                go_meet
                exact ⟨by rw [HF1.out HZ1.out HZ2.out]; rfl, Lib.hid (Below.alloc (Below.alloc (Below.refl _ _) (Nat.le_refl _) _) (by first | (simp; done) | (simp; omega)) _)⟩
          · go_wp2_with fail
            refine (stHolds_any 1 1000 c.rated _).mono ?_
            rw [HZ1.out]
            rintro e w1 ⟨rfl, rfl⟩
            cases z1
            · go_wp2_with fail
              try go_step
              go_meet
              exact ⟨by rw [HF3.out (by first | exact .inl HBR.out | exact .inr HBH.out) (.inl HZ1.out)]; rfl, Lib.hid (Below.alloc (Below.refl _ _) (Nat.le_refl _) _)⟩
            · go_wp2_with fail
              refine (stHolds_any 0 1000000 c.heat _).mono ?_
              rw [HZ2.out]
              rintro e w1 ⟨rfl, rfl⟩
              cases z2
              · go_wp2_with fail
                try go_step
                go_meet
                exact ⟨by rw [HF3.out (by first | exact .inl HBR.out | exact .inr HBH.out) (.inr HZ2.out)]; rfl, Lib.hid (Below.alloc (Below.alloc (Below.refl _ _) (Nat.le_refl _) _) (by first | (simp; done) | (simp; omega)) _)⟩
              · go_wp2_with fail
                try go_step
                go_meet
                exact ⟨by rw [HF1.out HZ1.out HZ2.out]; rfl, Lib.hid (Below.alloc (Below.alloc (Below.refl _ _) (Nat.le_refl _) _) (by first | (simp; done) | (simp; omega)) _)⟩
          · go_wp2_with fail
            try go_step
            go_meet
            exact ⟨by rw [HF2.out HBR.out HBH.out]; rfl, Lib.hid (Below.refl _ _)⟩
        case rest =>
          obtain ⟨rfl, hb7⟩ := hcut
          have HW7 : Hid (∀ w' : World, Below wc.heap.size wc w' → Below w.heap.size w w') := Lib.hid (fun w' h => below_then (below_then HWc.out hb7.out) h)
          have g0 := (hb7.out.cell (p := ⟨bt, 0, none⟩) lt).trans t0
          have g1 := (hb7.out.cell (p := ⟨bt, 1, none⟩) lt).trans t1
          have g2 := (hb7.out.cell (p := ⟨bt, 2, none⟩) lt).trans t2
          have g3 := (hb7.out.cell (p := ⟨bt, 3, none⟩) lt).trans t3
          have g4 := (hb7.out.cell (p := ⟨bt, 4, none⟩) lt).trans t4
          have lt7 : bt < wc.heap.size := Nat.lt_of_lt_of_le lt hb7.out.size
          obtain ⟨W7, hW7⟩ : ∃ X, X = wc := ⟨_, rfl⟩
          subst hW7
          clear t0 t1 t2 t3 t4 f0 f1 sp0 sp1 lt lf hsc hb7 HWc HF1 HF2 HF3 hbr hbh HBR HBH
          obtain ⟨zf, hzf⟩ : ∃ z, okFuse c = z := ⟨_, rfl⟩
          rw [hzf] at HE3 ⊢
          clear hzf
          go_step
          cases zf
          · go_wp2_with fail
            go_ret
            exact ⟨ret_bool (by rw [HE3.out]; rfl), HW7.out _ (Below.refl _ _)⟩
          have HE4 : Hid (okConB i c = okCable c) := Lib.hid (by rw [HE3.out]; rfl)
          clear HE3
          go_upto_region 9 with (fail)
          go_cut [65, 66, 67] (fun v65 v66 v67 wx => ∃ zc : Bool, v67 = .bool zc ∧ Hid (zc = true ↔ (c.amb = 0 ∧ c.most = 0 ∧ c.gain = 0 ∧ c.loss = 0 ∧ c.den = 0)) ∧ Hid (wx = W7))
          case first =>
            obtain ⟨y0, hy0⟩ : ∃ z, (c.amb == 0) = z := ⟨_, rfl⟩
            have HY0 := Lib.hid hy0
            cases y0
            · go_wp2_with fail
              try go_step
              go_meet
              exact ⟨false, rfl, Lib.hid ⟨fun h => (by cases h), fun h => by have := HY0.out; simp [h.1] at this⟩, Lib.hid rfl⟩
            obtain ⟨y1, hy1⟩ : ∃ z, (c.most == 0) = z := ⟨_, rfl⟩
            have HY1 := Lib.hid hy1
            cases y1
            · go_wp2_with fail
              try go_step
              go_meet
              exact ⟨false, rfl, Lib.hid ⟨fun h => (by cases h), fun h => by have := HY1.out; simp [h.2.1] at this⟩, Lib.hid rfl⟩
            obtain ⟨y2, hy2⟩ : ∃ z, (c.gain == 0) = z := ⟨_, rfl⟩
            have HY2 := Lib.hid hy2
            cases y2
            · go_wp2_with fail
              try go_step
              go_meet
              exact ⟨false, rfl, Lib.hid ⟨fun h => (by cases h), fun h => by have := HY2.out; simp [h.2.2.1] at this⟩, Lib.hid rfl⟩
            obtain ⟨y3, hy3⟩ : ∃ z, (c.loss == 0) = z := ⟨_, rfl⟩
            have HY3 := Lib.hid hy3
            cases y3
            · go_wp2_with fail
              try go_step
              go_meet
              exact ⟨false, rfl, Lib.hid ⟨fun h => (by cases h), fun h => by have := HY3.out; simp [h.2.2.2.1] at this⟩, Lib.hid rfl⟩
            obtain ⟨y4, hy4⟩ : ∃ z, (c.den == 0) = z := ⟨_, rfl⟩
            have HY4 := Lib.hid hy4
            cases y4
            · go_wp2_with fail
              try go_step
              go_meet
              exact ⟨false, rfl, Lib.hid ⟨fun h => (by cases h), fun h => by have := HY4.out; simp [h.2.2.2.2] at this⟩, Lib.hid rfl⟩
            go_wp2_with fail
            try go_step
            go_meet
            exact ⟨true, rfl, Lib.hid ⟨fun _ => ⟨by simpa using HY0.out, by simpa using HY1.out, by simpa using HY2.out, by simpa using HY3.out, by simpa using HY4.out⟩, fun _ => rfl⟩, Lib.hid rfl⟩
          case rest =>
            obtain ⟨zc, rfl, HZC, hwx⟩ := hcut
            have hwx := hwx.out.symm
            subst hwx
            go_step
            cases zc
            case true =>
              have HT : Hid (okCable c = true) := Lib.hid (by unfold okCable; rw [decide_eq_true_eq]; exact .inl (HZC.out.1 rfl))
              go_wp2_with fail
              go_ret
              exact ⟨ret_bool (by rw [HE4.out, HT.out]), HW7.out _ (Below.refl _ _)⟩
            have HF4 : Hid (okConB i c = (inside c.amb 0 200000 && (inside c.most 0 200000 && (inside c.gain 0 1000 && (inside c.loss 0 1000 && (inside c.den 1 1000000 && decide (c.amb < c.most))))))) := Lib.hid (by
              rw [HE4.out, Bool.eq_iff_iff]
              simp only [Bool.and_eq_true, inside_iff, decide_eq_true_eq, okCable]
              constructor
              · rintro (h | h)
                · exact absurd (HZC.out.2 h) (by decide)
                · exact ⟨h.1, h.2.1, h.2.2.1, h.2.2.2.1, h.2.2.2.2.1, h.2.2.2.2.2⟩
              · rintro ⟨h1, h2, h3, h4, h5, h6⟩
                exact .inr ⟨h1, h2, h3, h4, h5, h6⟩)
            clear HZC HE4
            obtain ⟨x0, hx0⟩ : ∃ z, inside c.amb 0 200000 = z := ⟨_, rfl⟩
            rw [hx0] at HF4
            have HX0 := Lib.hid hx0
            clear hx0
            obtain ⟨x1, hx1⟩ : ∃ z, inside c.most 0 200000 = z := ⟨_, rfl⟩
            rw [hx1] at HF4
            have HX1 := Lib.hid hx1
            clear hx1
            obtain ⟨x2, hx2⟩ : ∃ z, inside c.gain 0 1000 = z := ⟨_, rfl⟩
            rw [hx2] at HF4
            have HX2 := Lib.hid hx2
            clear hx2
            obtain ⟨x3, hx3⟩ : ∃ z, inside c.loss 0 1000 = z := ⟨_, rfl⟩
            rw [hx3] at HF4
            have HX3 := Lib.hid hx3
            clear hx3
            obtain ⟨x4, hx4⟩ : ∃ z, inside c.den 1 1000000 = z := ⟨_, rfl⟩
            rw [hx4] at HF4
            have HX4 := Lib.hid hx4
            clear hx4
            go_upto_region 12 with (fail)
            refine wp_world (fun X => (X.cell? ⟨W7.heap.size, 0, none⟩ = some (.int .i64 0) ∧ X.cell? ⟨W7.heap.size, 1, none⟩ = some (.int .i64 200000) ∧ X.cell? ⟨W7.heap.size + 1, 0, none⟩ = some (.int .i64 0) ∧ X.cell? ⟨W7.heap.size + 1, 1, none⟩ = some (.int .i64 1000)) ∧ Below W7.heap.size W7 X ∧ W7.heap.size + 1 < X.heap.size) ⟨⟨by go_simp, by go_simp, by go_simp, by go_simp⟩, ((Below.refl _ _).alloc (Nat.le_refl _) _).alloc (by simp) _, by simp⟩ ?_
            rintro X ⟨⟨e0, e1, e2, e3⟩, hbX, hlX⟩
            have g0 := (hbX.cell (p := ⟨bt, 0, none⟩) lt7).trans g0
            have g1 := (hbX.cell (p := ⟨bt, 1, none⟩) lt7).trans g1
            have g2 := (hbX.cell (p := ⟨bt, 2, none⟩) lt7).trans g2
            have g3 := (hbX.cell (p := ⟨bt, 3, none⟩) lt7).trans g3
            have g4 := (hbX.cell (p := ⟨bt, 4, none⟩) lt7).trans g4
            have HBX0 := Lib.hid hbX
            have lbX : bt < X.heap.size := Nat.lt_of_lt_of_le lt7 hbX.size
            have l8X : W7.heap.size < X.heap.size := by omega
            clear hbX
            go_wp2_with fail
            refine (stHolds_any 0 200000 c.amb _).mono ?_
            rw [HX0.out]
            rintro e w1 ⟨rfl, hww1⟩
            have hbw1 : Below X.heap.size X w1 := by rw [hww1]; exact (Below.refl _ _).alloc (Nat.le_refl _) _
            have HBX1 := Lib.hid (below_then HBX0.out hbw1)
            have e0 := (hbw1.cell (p := ⟨W7.heap.size, 0, none⟩) l8X).trans e0
            have e1 := (hbw1.cell (p := ⟨W7.heap.size, 1, none⟩) l8X).trans e1
            have e2 := (hbw1.cell (p := ⟨W7.heap.size + 1, 0, none⟩) hlX).trans e2
            have e3 := (hbw1.cell (p := ⟨W7.heap.size + 1, 1, none⟩) hlX).trans e3
            have g0 := (hbw1.cell (p := ⟨bt, 0, none⟩) lbX).trans g0
            have g1 := (hbw1.cell (p := ⟨bt, 1, none⟩) lbX).trans g1
            have g2 := (hbw1.cell (p := ⟨bt, 2, none⟩) lbX).trans g2
            have g3 := (hbw1.cell (p := ⟨bt, 3, none⟩) lbX).trans g3
            have g4 := (hbw1.cell (p := ⟨bt, 4, none⟩) lbX).trans g4
            have lbX := Nat.lt_of_lt_of_le lbX hbw1.size
            have l8X := Nat.lt_of_lt_of_le l8X hbw1.size
            have hlX := Nat.lt_of_lt_of_le hlX hbw1.size
            clear hww1 hbw1
            cases x0
            · go_wp2_with fail
              go_ret
              exact ⟨ret_bool (by rw [HF4.out]; simp), HW7.out _ HBX1.out⟩
            go_wp2_with fail
            refine (stHolds_any 0 200000 c.most _).mono ?_
            rw [HX1.out]
            rintro e w2 ⟨rfl, hww2⟩
            have hbw2 : Below w1.heap.size w1 w2 := by rw [hww2]; exact (Below.refl _ _).alloc (Nat.le_refl _) _
            have HBX2 := Lib.hid (below_then HBX1.out hbw2)
            have e0 := (hbw2.cell (p := ⟨W7.heap.size, 0, none⟩) l8X).trans e0
            have e1 := (hbw2.cell (p := ⟨W7.heap.size, 1, none⟩) l8X).trans e1
            have e2 := (hbw2.cell (p := ⟨W7.heap.size + 1, 0, none⟩) hlX).trans e2
            have e3 := (hbw2.cell (p := ⟨W7.heap.size + 1, 1, none⟩) hlX).trans e3
            have g0 := (hbw2.cell (p := ⟨bt, 0, none⟩) lbX).trans g0
            have g1 := (hbw2.cell (p := ⟨bt, 1, none⟩) lbX).trans g1
            have g2 := (hbw2.cell (p := ⟨bt, 2, none⟩) lbX).trans g2
            have g3 := (hbw2.cell (p := ⟨bt, 3, none⟩) lbX).trans g3
            have g4 := (hbw2.cell (p := ⟨bt, 4, none⟩) lbX).trans g4
            have lbX := Nat.lt_of_lt_of_le lbX hbw2.size
            have l8X := Nat.lt_of_lt_of_le l8X hbw2.size
            have hlX := Nat.lt_of_lt_of_le hlX hbw2.size
            clear hww2 hbw2
            cases x1
            · go_wp2_with fail
              go_ret
              exact ⟨ret_bool (by rw [HF4.out]; simp), HW7.out _ HBX2.out⟩
            go_wp2_with fail
            refine (stHolds_any 0 1000 c.gain _).mono ?_
            rw [HX2.out]
            rintro e w3 ⟨rfl, hww3⟩
            have hbw3 : Below w2.heap.size w2 w3 := by rw [hww3]; exact (Below.refl _ _).alloc (Nat.le_refl _) _
            have HBX3 := Lib.hid (below_then HBX2.out hbw3)
            have e0 := (hbw3.cell (p := ⟨W7.heap.size, 0, none⟩) l8X).trans e0
            have e1 := (hbw3.cell (p := ⟨W7.heap.size, 1, none⟩) l8X).trans e1
            have e2 := (hbw3.cell (p := ⟨W7.heap.size + 1, 0, none⟩) hlX).trans e2
            have e3 := (hbw3.cell (p := ⟨W7.heap.size + 1, 1, none⟩) hlX).trans e3
            have g0 := (hbw3.cell (p := ⟨bt, 0, none⟩) lbX).trans g0
            have g1 := (hbw3.cell (p := ⟨bt, 1, none⟩) lbX).trans g1
            have g2 := (hbw3.cell (p := ⟨bt, 2, none⟩) lbX).trans g2
            have g3 := (hbw3.cell (p := ⟨bt, 3, none⟩) lbX).trans g3
            have g4 := (hbw3.cell (p := ⟨bt, 4, none⟩) lbX).trans g4
            have lbX := Nat.lt_of_lt_of_le lbX hbw3.size
            have l8X := Nat.lt_of_lt_of_le l8X hbw3.size
            have hlX := Nat.lt_of_lt_of_le hlX hbw3.size
            clear hww3 hbw3
            cases x2
            · go_wp2_with fail
              go_ret
              exact ⟨ret_bool (by rw [HF4.out]; simp), HW7.out _ HBX3.out⟩
            go_wp2_with fail
            refine (stHolds_any 0 1000 c.loss _).mono ?_
            rw [HX3.out]
            rintro e w4 ⟨rfl, hww4⟩
            have hbw4 : Below w3.heap.size w3 w4 := by rw [hww4]; exact (Below.refl _ _).alloc (Nat.le_refl _) _
            have HBX4 := Lib.hid (below_then HBX3.out hbw4)
            have e0 := (hbw4.cell (p := ⟨W7.heap.size, 0, none⟩) l8X).trans e0
            have e1 := (hbw4.cell (p := ⟨W7.heap.size, 1, none⟩) l8X).trans e1
            have e2 := (hbw4.cell (p := ⟨W7.heap.size + 1, 0, none⟩) hlX).trans e2
            have e3 := (hbw4.cell (p := ⟨W7.heap.size + 1, 1, none⟩) hlX).trans e3
            have g0 := (hbw4.cell (p := ⟨bt, 0, none⟩) lbX).trans g0
            have g1 := (hbw4.cell (p := ⟨bt, 1, none⟩) lbX).trans g1
            have g2 := (hbw4.cell (p := ⟨bt, 2, none⟩) lbX).trans g2
            have g3 := (hbw4.cell (p := ⟨bt, 3, none⟩) lbX).trans g3
            have g4 := (hbw4.cell (p := ⟨bt, 4, none⟩) lbX).trans g4
            have lbX := Nat.lt_of_lt_of_le lbX hbw4.size
            have l8X := Nat.lt_of_lt_of_le l8X hbw4.size
            have hlX := Nat.lt_of_lt_of_le hlX hbw4.size
            clear hww4 hbw4
            cases x3
            · go_wp2_with fail
              go_ret
              exact ⟨ret_bool (by rw [HF4.out]; simp), HW7.out _ HBX4.out⟩
            go_wp2_with fail
            refine (stHolds_any 1 1000000 c.den _).mono ?_
            rw [HX4.out]
            rintro e w5 ⟨rfl, hww5⟩
            have hbw5 : Below w4.heap.size w4 w5 := by rw [hww5]; exact (Below.refl _ _).alloc (Nat.le_refl _) _
            have HBX5 := Lib.hid (below_then HBX4.out hbw5)
            have e0 := (hbw5.cell (p := ⟨W7.heap.size, 0, none⟩) l8X).trans e0
            have e1 := (hbw5.cell (p := ⟨W7.heap.size, 1, none⟩) l8X).trans e1
            have e2 := (hbw5.cell (p := ⟨W7.heap.size + 1, 0, none⟩) hlX).trans e2
            have e3 := (hbw5.cell (p := ⟨W7.heap.size + 1, 1, none⟩) hlX).trans e3
            have g0 := (hbw5.cell (p := ⟨bt, 0, none⟩) lbX).trans g0
            have g1 := (hbw5.cell (p := ⟨bt, 1, none⟩) lbX).trans g1
            have g2 := (hbw5.cell (p := ⟨bt, 2, none⟩) lbX).trans g2
            have g3 := (hbw5.cell (p := ⟨bt, 3, none⟩) lbX).trans g3
            have g4 := (hbw5.cell (p := ⟨bt, 4, none⟩) lbX).trans g4
            have lbX := Nat.lt_of_lt_of_le lbX hbw5.size
            have l8X := Nat.lt_of_lt_of_le l8X hbw5.size
            have hlX := Nat.lt_of_lt_of_le hlX hbw5.size
            clear hww5 hbw5
            cases x4
            · go_wp2_with fail
              go_ret
              exact ⟨ret_bool (by rw [HF4.out]; simp), HW7.out _ HBX5.out⟩
            go_wp2_with fail
            refine (stCable_any c.amb c.most c.gain c.loss c.den _).mono ?_
            rintro e w6 ⟨rfl, hw6⟩
            have HB6 : Hid (Below w.heap.size w w6) := Lib.hid (by rw [hw6]; exact HW7.out _ (HBX5.out.alloc HBX5.out.size _))
            clear hw6
            go_wp2_with fail
            go_ret
            exact ⟨ret_bool (by rw [HF4.out]; simp), HB6.out⟩
end Go.Proofs.YtkbbapefgifagaaGreatDoor
/-
site.namesOf, walked.
-/
namespace Go.Proofs.YtkbbapefgifagaaGreatDoor
open Go.RowKit
set_option linter.unusedVariables false
set_option linter.unusedSimpArgs false
def NamesPost (w : World) (s : GSite) (L : Nat) (e : Ending) (w' : World) : Prop := ∃ a c, e = .returned (.slice a L c) ∧ Rd 1 encS w' a (allNames s) ∧ Below w.heap.size w w'
set_option maxRecDepth 100000 in
set_option maxHeartbeats 8000000 in
theorem stNames_any (a1 a2 a3 a4 a5 : Option Addr) (n1 c1 n2 c2 n3 c3 n4 c4 n5 c5 : Nat) (s : GSite) (w : World) (HS : Hid (RdSite w a1 a2 a3 a4 a5 n1 n2 n3 n4 n5 s)) (h1 : n1 ≤ 16) (h2 : n2 ≤ 8) (h3 : n3 ≤ 32) (h4 : n4 ≤ 16) (h5 : n5 ≤ 24) :
    Calls Tryz.prog 98 #[.agg #[.slice a1 n1 c1, .slice a2 n2 c2, .slice a3 n3 c3, .slice a4 n4 c4, .slice a5 n5 c5]] w (NamesPost w s (n1 + n2 + n3 + n4 + n5)) := by
  obtain ⟨W0, hW0⟩ : ∃ W0, W0 = w.alloc (.cells #[.slice a1 n1 c1, .slice a2 n2 c2, .slice a3 n3 c3, .slice a4 n4 c4, .slice a5 n5 c5] 39) := ⟨_, rfl⟩
  have b0 : Below w.heap.size w W0 := by rw [hW0]; exact (Below.refl _ w).alloc (Nat.le_refl _) _
  have hs0 : w.heap.size < W0.heap.size := by rw [hW0]; simp
  have q0 : W0.cell? ⟨w.heap.size, 0, none⟩ = some (.slice a1 n1 c1) := by rw [hW0]; go_simp
  have q1 : W0.cell? ⟨w.heap.size, 1, none⟩ = some (.slice a2 n2 c2) := by rw [hW0]; go_simp
  have q2 : W0.cell? ⟨w.heap.size, 2, none⟩ = some (.slice a3 n3 c3) := by rw [hW0]; go_simp
  have q3 : W0.cell? ⟨w.heap.size, 3, none⟩ = some (.slice a4 n4 c4) := by rw [hW0]; go_simp
  have q4 : W0.cell? ⟨w.heap.size, 4, none⟩ = some (.slice a5 n5 c5) := by rw [hW0]; go_simp
  have HW0 := Lib.hid hW0.symm
  have HB0 := Lib.hid b0
  have HSW := Lib.hid (HS.out.keep b0)
  have HL : Hid (s.cons.length = n1 ∧ s.owns.length = n2 ∧ s.ctrs.length = n3 ∧ s.chgs.length = n4 ∧ s.bays.length = n5) := Lib.hid ⟨HS.out.l1, HS.out.l2, HS.out.l3, HS.out.l4, HS.out.l5⟩
  clear hW0 b0
  go_enter Tryz.func98, Tryz.ntmps98
  go_upto_region 1 with (fail)
  rw [HW0.out]
  go_wp2_with fail
  go_loopg [3, 5, 17] n1 (fun g1 v3 v5 v17 wr => ∃ k : Nat, v17 = .int .i64 k ∧ k ≤ n1 ∧ n1 - k ≤ g1 ∧ Hid (OwnT wr W0.heap.size v3 ([] ++ ((s.cons.map GCon.name)).take k)) ∧ Hid (Below W0.heap.size W0 wr))
  case atStart => exact ⟨0, by go_num, by omega, by omega, Lib.hid (by simpa using (OwnR.nil (t := 9) (sz := 1) (enc := encS) W0 W0.heap.size)), Lib.hid (Below.refl _ _)⟩
  case round =>
    obtain ⟨k, rfl, hk, hg1, HX, HB⟩ := hrel
    by_cases hlt : k < n1
    · have hltz : (k : Int) < (n1 : Int) := by omega
      obtain ⟨b, off, c, hbe, hbl, hc, k0, k1, k2, k3, k4, k5, k6, k7, k8, k9, k10⟩ := rdCon_at (HSW.out.r1.keep HB.out) (k := k) (by rw [HSW.out.l1]; exact hlt)
      have al : Below wr.heap.size wr (wr.alloc (.cells #[.string c.name, .int .i64 c.up, .int .i64 c.limit, .int .i64 c.neutral, .int .i64 c.rated, .int .i64 c.heat, .int .i64 c.amb, .int .i64 c.most, .int .i64 c.gain, .int .i64 c.loss, .int .i64 c.den] 72)) := (Below.refl _ _).alloc (Nat.le_refl _) _
      have hsz := HB.out.size
      have hpl : ([] ++ ((s.cons.map GCon.name)).take k).length ≤ 1000 := by simp only [List.length_append, List.length_map, List.length_take, List.length_nil, HL.out.1, HL.out.2.1, HL.out.2.2.1, HL.out.2.2.2.1]; omega
      obtain ⟨ap, v', w5, av, aw, HO1, HA1⟩ := app_str c.name (HX.out.keep al) (Nat.le_trans hsz al.size) (by omega)
      rw [World.size_alloc] at ap av aw
      have HX2 : Hid (OwnT w5 W0.heap.size v' ([] ++ ((s.cons.map GCon.name)).take (k + 1))) := Lib.hid (by
        have e : ((s.cons.map GCon.name)).take (k + 1) = ((s.cons.map GCon.name)).take k ++ [c.name] := take_snoc (by rw [List.getElem?_map, hc]; rfl)
        rw [e, ← List.append_assoc]
        exact HO1.out)
      have HB2 : Hid (Below W0.heap.size W0 w5) := Lib.hid ((HB.out.trans (al.mono hsz)).trans HA1.out.bel)
      subst hbe
      clear hc HX HB HO1 HA1 al hpl
      go_wp2_with fail
      go_roundg (n1 - (k + 1))
      case measure => omega
      case rel => exact ⟨k + 1, by go_num, by omega, by omega, HX2, HB2⟩
    · have hltz : ¬ (k : Int) < (n1 : Int) := by omega
      have HX1 : Hid (OwnT wr W0.heap.size u3 (s.cons.map GCon.name)) := Lib.hid (by
        have h := HX.out
        rw [List.take_of_length_le (by rw [List.length_map, HSW.out.l1]; omega)] at h
        simpa using h)
      have HB1 := HB
      have p1 := (HB.out.cell (p := ⟨w.heap.size, 1, none⟩) hs0).trans q1
      clear HX HB hk hg1 hlt
      go_wp2_with fail
      go_loopg [3, 7, 30] n2 (fun g1 v3 v7 v30 wr => ∃ k : Nat, v30 = .int .i64 k ∧ k ≤ n2 ∧ n2 - k ≤ g1 ∧ Hid (OwnT wr W0.heap.size v3 (s.cons.map GCon.name ++ (s.owns).take k)) ∧ Hid (Below W0.heap.size W0 wr))
      case atStart => exact ⟨0, by go_num, by omega, by omega, Lib.hid (by simpa using HX1.out), HB1⟩
      case round =>
        clear HX1 HB1
        obtain ⟨k, rfl, hk, hg1, HX, HB⟩ := hrel
        by_cases hlt : k < n2
        · have hltz : (k : Int) < (n2 : Int) := by omega
          obtain ⟨b, off, c, hbe, hbl, hc, k0⟩ := rdOwn_at (HSW.out.r2.keep HB.out) (k := k) (by rw [HSW.out.l2]; exact hlt)
          have al : Below wr.heap.size wr (wr.alloc (.cells #[.string c] 74)) := (Below.refl _ _).alloc (Nat.le_refl _) _
          have hsz := HB.out.size
          have hpl : (s.cons.map GCon.name ++ (s.owns).take k).length ≤ 1000 := by simp only [List.length_append, List.length_map, List.length_take, List.length_nil, HL.out.1, HL.out.2.1, HL.out.2.2.1, HL.out.2.2.2.1]; omega
          obtain ⟨ap, v', w5, av, aw, HO1, HA1⟩ := app_str c (HX.out.keep al) (Nat.le_trans hsz al.size) (by omega)
          rw [World.size_alloc] at ap av aw
          have HX2 : Hid (OwnT w5 W0.heap.size v' (s.cons.map GCon.name ++ (s.owns).take (k + 1))) := Lib.hid (by
            have e : (s.owns).take (k + 1) = (s.owns).take k ++ [c] := take_snoc (by exact hc)
            rw [e, ← List.append_assoc]
            exact HO1.out)
          have HB2 : Hid (Below W0.heap.size W0 w5) := Lib.hid ((HB.out.trans (al.mono hsz)).trans HA1.out.bel)
          subst hbe
          clear hc HX HB HO1 HA1 al hpl
          go_wp2_with fail
          go_roundg (n2 - (k + 1))
          case measure => omega
          case rel => exact ⟨k + 1, by go_num, by omega, by omega, HX2, HB2⟩
        · have hltz : ¬ (k : Int) < (n2 : Int) := by omega
          have HX2 : Hid (OwnT wr W0.heap.size u3 (s.cons.map GCon.name ++ s.owns)) := Lib.hid (by
            have h := HX.out
            rw [List.take_of_length_le (by rw [HSW.out.l2]; omega)] at h
            exact h)
          have HB2 := HB
          have p2 := (HB.out.cell (p := ⟨w.heap.size, 2, none⟩) hs0).trans q2
          clear HX HB hk hg1 hlt
          go_wp2_with fail
          go_loopg [3, 9, 43] n3 (fun g1 v3 v9 v43 wr => ∃ k : Nat, v43 = .int .i64 k ∧ k ≤ n3 ∧ n3 - k ≤ g1 ∧ Hid (OwnT wr W0.heap.size v3 (s.cons.map GCon.name ++ s.owns ++ ((s.ctrs.map GCtr.name)).take k)) ∧ Hid (Below W0.heap.size W0 wr))
          case atStart => exact ⟨0, by go_num, by omega, by omega, Lib.hid (by simpa using HX2.out), HB2⟩
          case round =>
            clear HX2 HB2
            obtain ⟨k, rfl, hk, hg1, HX, HB⟩ := hrel
            by_cases hlt : k < n3
            · have hltz : (k : Int) < (n3 : Int) := by omega
              obtain ⟨b, off, c, hbe, hbl, hc, k0, k1, k2, k3⟩ := rdCtr_at (HSW.out.r3.keep HB.out) (k := k) (by rw [HSW.out.l3]; exact hlt)
              have al : Below wr.heap.size wr (wr.alloc (.cells #[.string c.name, .int .i64 c.own, .int .i64 c.rank, .int .i64 c.card] 193)) := (Below.refl _ _).alloc (Nat.le_refl _) _
              have hsz := HB.out.size
              have hpl : (s.cons.map GCon.name ++ s.owns ++ ((s.ctrs.map GCtr.name)).take k).length ≤ 1000 := by simp only [List.length_append, List.length_map, List.length_take, List.length_nil, HL.out.1, HL.out.2.1, HL.out.2.2.1, HL.out.2.2.2.1]; omega
              obtain ⟨ap, v', w5, av, aw, HO1, HA1⟩ := app_str c.name (HX.out.keep al) (Nat.le_trans hsz al.size) (by omega)
              rw [World.size_alloc] at ap av aw
              have HX2 : Hid (OwnT w5 W0.heap.size v' (s.cons.map GCon.name ++ s.owns ++ ((s.ctrs.map GCtr.name)).take (k + 1))) := Lib.hid (by
                have e : ((s.ctrs.map GCtr.name)).take (k + 1) = ((s.ctrs.map GCtr.name)).take k ++ [c.name] := take_snoc (by rw [List.getElem?_map, hc]; rfl)
                rw [e, ← List.append_assoc]
                exact HO1.out)
              have HB2 : Hid (Below W0.heap.size W0 w5) := Lib.hid ((HB.out.trans (al.mono hsz)).trans HA1.out.bel)
              subst hbe
              clear hc HX HB HO1 HA1 al hpl
              go_wp2_with fail
              go_roundg (n3 - (k + 1))
              case measure => omega
              case rel => exact ⟨k + 1, by go_num, by omega, by omega, HX2, HB2⟩
            · have hltz : ¬ (k : Int) < (n3 : Int) := by omega
              have HX3 : Hid (OwnT wr W0.heap.size u3 (s.cons.map GCon.name ++ s.owns ++ (s.ctrs.map GCtr.name))) := Lib.hid (by
                have h := HX.out
                rw [List.take_of_length_le (by rw [List.length_map, HSW.out.l3]; omega)] at h
                exact h)
              have HB3 := HB
              have p3 := (HB.out.cell (p := ⟨w.heap.size, 3, none⟩) hs0).trans q3
              clear HX HB hk hg1 hlt
              go_wp2_with fail
              go_loopg [3, 11, 56] n4 (fun g1 v3 v11 v56 wr => ∃ k : Nat, v56 = .int .i64 k ∧ k ≤ n4 ∧ n4 - k ≤ g1 ∧ Hid (OwnT wr W0.heap.size v3 (s.cons.map GCon.name ++ s.owns ++ s.ctrs.map GCtr.name ++ ((s.chgs.map GChg.name)).take k)) ∧ Hid (Below W0.heap.size W0 wr))
              case atStart => exact ⟨0, by go_num, by omega, by omega, Lib.hid (by simpa using HX3.out), HB3⟩
              case round =>
                clear HX3 HB3
                obtain ⟨k, rfl, hk, hg1, HX, HB⟩ := hrel
                by_cases hlt : k < n4
                · have hltz : (k : Int) < (n4 : Int) := by omega
                  obtain ⟨b, off, c, hbe, hbl, hc, k0, k1, k2, k3, k4, k5, k6, k7⟩ := rdChg_at (HSW.out.r4.keep HB.out) (k := k) (by rw [HSW.out.l4]; exact hlt)
                  have al : Below wr.heap.size wr (wr.alloc (.cells #[.string c.name, .int .i64 c.place, .int .i64 c.ph, .int .i64 c.mn, .int .i64 c.mx, .int .i64 c.step, .int .i64 c.fb, .int .i64 c.own] 59)) := (Below.refl _ _).alloc (Nat.le_refl _) _
                  have hsz := HB.out.size
                  have hpl : (s.cons.map GCon.name ++ s.owns ++ s.ctrs.map GCtr.name ++ ((s.chgs.map GChg.name)).take k).length ≤ 1000 := by simp only [List.length_append, List.length_map, List.length_take, List.length_nil, HL.out.1, HL.out.2.1, HL.out.2.2.1, HL.out.2.2.2.1]; omega
                  obtain ⟨ap, v', w5, av, aw, HO1, HA1⟩ := app_str c.name (HX.out.keep al) (Nat.le_trans hsz al.size) (by omega)
                  rw [World.size_alloc] at ap av aw
                  have HX2 : Hid (OwnT w5 W0.heap.size v' (s.cons.map GCon.name ++ s.owns ++ s.ctrs.map GCtr.name ++ ((s.chgs.map GChg.name)).take (k + 1))) := Lib.hid (by
                    have e : ((s.chgs.map GChg.name)).take (k + 1) = ((s.chgs.map GChg.name)).take k ++ [c.name] := take_snoc (by rw [List.getElem?_map, hc]; rfl)
                    rw [e, ← List.append_assoc]
                    exact HO1.out)
                  have HB2 : Hid (Below W0.heap.size W0 w5) := Lib.hid ((HB.out.trans (al.mono hsz)).trans HA1.out.bel)
                  subst hbe
                  clear hc HX HB HO1 HA1 al hpl
                  go_wp2_with fail
                  go_roundg (n4 - (k + 1))
                  case measure => omega
                  case rel => exact ⟨k + 1, by go_num, by omega, by omega, HX2, HB2⟩
                · have hltz : ¬ (k : Int) < (n4 : Int) := by omega
                  have HX4 : Hid (OwnT wr W0.heap.size u3 (s.cons.map GCon.name ++ s.owns ++ s.ctrs.map GCtr.name ++ (s.chgs.map GChg.name))) := Lib.hid (by
                    have h := HX.out
                    rw [List.take_of_length_le (by rw [List.length_map, HSW.out.l4]; omega)] at h
                    exact h)
                  have HB4 := HB
                  have p4 := (HB.out.cell (p := ⟨w.heap.size, 4, none⟩) hs0).trans q4
                  clear HX HB hk hg1 hlt
                  go_wp2_with fail
                  go_loopg [3, 13, 69] n5 (fun g1 v3 v13 v69 wr => ∃ k : Nat, v69 = .int .i64 k ∧ k ≤ n5 ∧ n5 - k ≤ g1 ∧ Hid (OwnT wr W0.heap.size v3 (s.cons.map GCon.name ++ s.owns ++ s.ctrs.map GCtr.name ++ s.chgs.map GChg.name ++ ((s.bays.map GBay.name)).take k)) ∧ Hid (Below W0.heap.size W0 wr))
                  case atStart => exact ⟨0, by go_num, by omega, by omega, Lib.hid (by simpa using HX4.out), HB4⟩
                  case round =>
                    clear HX4 HB4
                    obtain ⟨k, rfl, hk, hg1, HX, HB⟩ := hrel
                    by_cases hlt : k < n5
                    · have hltz : (k : Int) < (n5 : Int) := by omega
                      obtain ⟨b, off, c, hbe, hbl, hc, k0, k1⟩ := rdBay_at (HSW.out.r5.keep HB.out) (k := k) (by rw [HSW.out.l5]; exact hlt)
                      have al : Below wr.heap.size wr (wr.alloc (.cells #[.string c.name, .int .i64 c.chg] 195)) := (Below.refl _ _).alloc (Nat.le_refl _) _
                      have hsz := HB.out.size
                      have hpl : (s.cons.map GCon.name ++ s.owns ++ s.ctrs.map GCtr.name ++ s.chgs.map GChg.name ++ ((s.bays.map GBay.name)).take k).length ≤ 1000 := by simp only [List.length_append, List.length_map, List.length_take, List.length_nil, HL.out.1, HL.out.2.1, HL.out.2.2.1, HL.out.2.2.2.1]; omega
                      obtain ⟨ap, v', w5, av, aw, HO1, HA1⟩ := app_str c.name (HX.out.keep al) (Nat.le_trans hsz al.size) (by omega)
                      rw [World.size_alloc] at ap av aw
                      have HX2 : Hid (OwnT w5 W0.heap.size v' (s.cons.map GCon.name ++ s.owns ++ s.ctrs.map GCtr.name ++ s.chgs.map GChg.name ++ ((s.bays.map GBay.name)).take (k + 1))) := Lib.hid (by
                        have e : ((s.bays.map GBay.name)).take (k + 1) = ((s.bays.map GBay.name)).take k ++ [c.name] := take_snoc (by rw [List.getElem?_map, hc]; rfl)
                        rw [e, ← List.append_assoc]
                        exact HO1.out)
                      have HB2 : Hid (Below W0.heap.size W0 w5) := Lib.hid ((HB.out.trans (al.mono hsz)).trans HA1.out.bel)
                      subst hbe
                      clear hc HX HB HO1 HA1 al hpl
                      go_wp2_with fail
                      go_roundg (n5 - (k + 1))
                      case measure => omega
                      case rel => exact ⟨k + 1, by go_num, by omega, by omega, HX2, HB2⟩
                    · have hltz : ¬ (k : Int) < (n5 : Int) := by omega
                      have HX5 : Hid (OwnT wr W0.heap.size u3 (s.cons.map GCon.name ++ s.owns ++ s.ctrs.map GCtr.name ++ s.chgs.map GChg.name ++ (s.bays.map GBay.name))) := Lib.hid (by
                        have h := HX.out
                        rw [List.take_of_length_le (by rw [List.length_map, HSW.out.l5]; omega)] at h
                        exact h)
                      have HB5 := HB
                      obtain ⟨a9, d9, e9, r9⟩ := HX5.out.rd encS_len
                      have e10 : (s.cons.map GCon.name ++ s.owns ++ s.ctrs.map GCtr.name ++ s.chgs.map GChg.name ++ s.bays.map GBay.name).length = n1 + n2 + n3 + n4 + n5 := by
                        simp only [List.length_append, List.length_map, HL.out.1, HL.out.2.1, HL.out.2.2.1, HL.out.2.2.2.1, HL.out.2.2.2.2]
                      rw [e10] at e9
                      have HF : Hid (NamesPost w s (n1 + n2 + n3 + n4 + n5) (.returned u3) wr) := Lib.hid ⟨a9, d9, congrArg Ending.returned e9, r9, below_then HB0.out HB.out⟩
                      clear HX HX5 HB HB5 r9 e9 e10
                      go_wp2_with fail
                      go_ret
                      exact HF.out
end Go.Proofs.YtkbbapefgifagaaGreatDoor
