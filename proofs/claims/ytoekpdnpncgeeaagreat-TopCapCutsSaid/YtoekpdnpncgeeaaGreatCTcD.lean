/-
TopCapCuts: the plain law, and the walk.
-/
import Derived.Test.YtoekpdnpncgeeaaGreatGTfU
import Derived.Test.YtoekpdnpncgeeaaGreatGLp
namespace Go.Proofs.YtoekpdnpncgeeaaGreat
open Go.RowKit
set_option linter.unusedVariables false
set_option linter.unusedSimpArgs false
theorem bill_cap {nm : ByteArray} {ar : List Art} {c : Cal} {s : Ses} {a : Art} (ht : trfB nm ar = true) (ha : a ∈ ar) (h5 : a.kind = 5) (he : billE nm ar c s = 0) : (billV nm ar c s).total ≤ a.price + (a.price * rateF 0 ar + 5000) / 10000 := by
  have hT := trfB_iff ht
  have hr := rateF_bd ar 0 (by omega) (by omega) hT.2.1
  unfold billE at he
  split at he
  · rename_i hv
    unfold billV billO
    rw [if_pos hv]
    cases ho : sumO ar c s with
    | none => rw [ho] at he; cases he
    | some b =>
      show b.total ≤ _
      unfold sumO at ho
      obtain ⟨b1, h1, h2⟩ := Option.bind_eq_some_iff.1 ho
      have hmo := (runB_most ar 0 _ b1 hT.2.1 (.inl rfl) h1).2 a ha h5
      have hne := runB_net ar 0 _ b1 hT.2.1 (Int.le_refl _) (.inl rfl) h1
      have hra := runB_rate ar 0 _ b1 h1
      have hnv : 0 ≤ netV b1 ∧ netV b1 ≤ a.price := by
        unfold netV
        rw [if_pos hmo.1]
        omega
      unfold endB at h2
      split at h2
      · rename_i hx
        injection h2 with h2
        subst h2
        show netV b1 + taxV (netV b1) b1.rate ≤ _
        have hra' : b1.rate = rateF 0 ar := hra
        rw [hra'] at hx ⊢
        generalize rateF 0 ar = r at *
        generalize netV b1 = n at *
        have hp := art_price (hT.2.1 a ha)
        have hmm : n * r ≤ a.price * r := Int.mul_le_mul_of_nonneg_right hnv.2 hr.1
        have hm0 : 0 ≤ n * r := Int.mul_nonneg hnv.1 hr.1
        have hx1 : xOk n r = true := by
          unfold xOk
          rw [amB_true hnv.1 (by omega), amB_true hr.1 (by omega)]
          rfl
        have hx2 := hx.1
        unfold taxE at hx2
        unfold taxV
        rw [if_pos hx1] at hx2 ⊢
        unfold fitE at hx2
        unfold fitV
        split at hx2
        · rename_i hz
          rw [if_pos hz]
          unfold halfV
          omega
        · cases hx2
      · cases h2
  · cases he
theorem priceT_cap {nm : ByteArray} {ar : List Art} {c : Cal} {s : Ses} {D : Int} (hb : ∀ p : Ses, billE nm ar c p = 0 → (billV nm ar c p).total ≤ D) : ∀ (l : List Int) (f z : Int), (priceT nm ar c s f z l).2 = 0 → (priceT nm ar c s f z l).1 ≤ z + ((l.length : Int) + 1) * D
  | [], f, z, h => by
    unfold priceT at h ⊢
    split at h
    · rename_i he
      rw [if_pos he]
      have := hb _ he
      unfold endT at h ⊢
      split at h
      · cases h
      · rename_i hz
        rw [if_neg hz]
        simp
        omega
    · rename_i he; exact absurd h he
  | m :: r, f, z, h => by
    unfold priceT at h ⊢
    split at h
    · rename_i he
      rw [if_pos he]
      have h1 := hb _ he
      have h2 := priceT_cap hb r m (z + (billV nm ar c (partS s f m)).total) h
      have e : (((m :: r).length : Int) + 1) * D = ((r.length : Int) + 1) * D + D := by
        rw [List.length_cons, Int.natCast_succ, Int.add_mul ((r.length : Int) + 1) 1 D]
        omega
      omega
    · rename_i he; exact absurd h he
theorem price_cap {nm : ByteArray} {ar : List Art} {c : Cal} {s : Ses} {ks : List Int} (h : (priceR nm ar c s ks).2 = 0) : trfB nm ar = true ∧ ∀ a ∈ ar, a.kind = 5 → (priceR nm ar c s ks).1 ≤ ((ks.length : Int) + 1) * (a.price + (a.price * rateF 0 ar + 5000) / 10000) := by
  unfold priceR at h ⊢
  split at h
  · rename_i hv
    rw [if_pos hv]
    have ht : trfB nm ar = true := (Bool.and_eq_true_iff.1 (Bool.and_eq_true_iff.1 hv).1).1
    refine ⟨ht, fun a ha h5 => ?_⟩
    have := priceT_cap (fun p hp => bill_cap ht ha h5 hp) ks s.frm 0 h
    omega
  · cases h
set_option maxRecDepth 100000 in
set_option maxHeartbeats 16000000 in
theorem walk_TopCapCuts (nm : ByteArray) (aT : Option Addr) (nT cT : Nat) (ar : List Art) (aC : Option Addr) (nC cC : Nat) (aH : Option Addr) (nH cH : Nat) (c : Cal) (aS : Option Addr) (nS cS : Nat) (s : Ses) (aK : Option Addr) (nK cK : Nat) (ks : List Int) (w : World) (HQ : Hid (RdTrf w nm aT nT ar)) (HC : Hid (RdCal w aC nC aH nH c)) (HS : Hid (RdSes w aS nS s)) (hr : Rd 1 encI w aK ks) (hk : ks.length = nK) (hk6 : nK ≤ 9223372036854775807) (hkw : ∀ x ∈ ks, x ≤ 9223372036854775807) : Calls Tryz.prog 4 #[.agg #[.string nm, .slice aT nT cT], .agg #[.int .i64 c.off, .slice aC nC cC, .slice aH nH cH], .agg #[.int .i64 s.frm, .int .i64 s.till, .int .i64 s.fin, .slice aS nS cS], .slice aK nK cK] w fun e w' => e = .returned (.bool true) ∧ Below w.heap.size w w' := by
  have HLK : Hid (ks.length = nK) := Lib.hid hk
  have HK0 := Lib.hid hr
  have HKW := Lib.hid hkw
  clear hk hr hkw
  obtain ⟨W0, hW0⟩ : ∃ W0, W0 = ((w.alloc (.cells #[.string nm, .slice aT nT cT] 24)).alloc (.cells #[.int .i64 c.off, .slice aC nC cC, .slice aH nH cH] 28)).alloc (.cells #[.int .i64 s.frm, .int .i64 s.till, .int .i64 s.fin, .slice aS nS cS] 31) := ⟨_, rfl⟩
  obtain ⟨B, hB⟩ : ∃ B, B = w.heap.size := ⟨_, rfl⟩
  have HM : Hid (TCS w W0 B (B + 1) (B + 1 + 1) nm aT nT cT ar aC nC cC aH nH cH c aS nS cS s) := Lib.hid (by rw [hW0, hB]; exact TCS.start HQ.out HC.out HS.out)
  have HW0 := Lib.hid hW0
  have HB0 := Lib.hid hB
  clear hW0 hB
  go_enter Tryz.func4, Tryz.ntmps4
  go_upto_region 1 with (fail)
  rw [← HW0.out, ← HB0.out]
  clear HW0 HB0
  obtain ⟨T, hT⟩ : ∃ T, T = B := ⟨_, rfl⟩
  obtain ⟨X, hX⟩ : ∃ T, T = B + 1 := ⟨_, rfl⟩
  obtain ⟨S, hS⟩ : ∃ T, T = B + 1 + 1 := ⟨_, rfl⟩
  rw [← hS, ← hX, ← hT] at HM ⊢
  clear hT hX hS
  go_wp2_with fail
  refine (tpHead20 W0).mono ?_
  rintro e w1 ⟨rfl, hb1⟩
  have HM := Lib.hid (HM.out.keep hb1)
  clear hb1
  obtain ⟨t0, t1⟩ : w1.cell? ⟨T, 0, none⟩ = some (.string nm) ∧ w1.cell? ⟨T, 1, none⟩ = some (.slice aT nT cT) := ⟨HM.out.tm.k0, HM.out.tm.k1⟩
  have hlT : T < w1.heap.size := World.block_lt_of_cell? w1 _ t0
  obtain ⟨k0, k1, k2⟩ : w1.cell? ⟨X, 0, none⟩ = some (.int .i64 c.off) ∧ w1.cell? ⟨X, 1, none⟩ = some (.slice aC nC cC) ∧ w1.cell? ⟨X, 2, none⟩ = some (.slice aH nH cH) := ⟨HM.out.cm.k0, HM.out.cm.k1, HM.out.cm.k2⟩
  have hlX : X < w1.heap.size := World.block_lt_of_cell? w1 _ k0
  obtain ⟨z0, z1, z2, z3⟩ : w1.cell? ⟨S, 0, none⟩ = some (.int .i64 s.frm) ∧ w1.cell? ⟨S, 1, none⟩ = some (.int .i64 s.till) ∧ w1.cell? ⟨S, 2, none⟩ = some (.int .i64 s.fin) ∧ w1.cell? ⟨S, 3, none⟩ = some (.slice aS nS cS) := ⟨HM.out.sm.k0, HM.out.sm.k1, HM.out.sm.k2, HM.out.sm.k3⟩
  have hlS : S < w1.heap.size := World.block_lt_of_cell? w1 _ z0
  go_wp2_with fail
  refine (r33Few_any nm aT nT cT ar aC nC cC aH nH cH c aS nS cS s _ (Lib.hid HM.out.tm.rd) (Lib.hid HM.out.cm.rd) (Lib.hid HM.out.sm.rd)).mono ?_
  rintro e w2 ⟨rfl, hb1⟩
  have HM := Lib.hid (HM.out.keep hb1)
  clear hb1
  clear t0 t1 hlT k0 k1 k2 hlX z0 z1 z2 z3 hlS
  obtain ⟨t0, t1⟩ : w2.cell? ⟨T, 0, none⟩ = some (.string nm) ∧ w2.cell? ⟨T, 1, none⟩ = some (.slice aT nT cT) := ⟨HM.out.tm.k0, HM.out.tm.k1⟩
  have hlT : T < w2.heap.size := World.block_lt_of_cell? w2 _ t0
  obtain ⟨k0, k1, k2⟩ : w2.cell? ⟨X, 0, none⟩ = some (.int .i64 c.off) ∧ w2.cell? ⟨X, 1, none⟩ = some (.slice aC nC cC) ∧ w2.cell? ⟨X, 2, none⟩ = some (.slice aH nH cH) := ⟨HM.out.cm.k0, HM.out.cm.k1, HM.out.cm.k2⟩
  have hlX : X < w2.heap.size := World.block_lt_of_cell? w2 _ k0
  obtain ⟨z0, z1, z2, z3⟩ : w2.cell? ⟨S, 0, none⟩ = some (.int .i64 s.frm) ∧ w2.cell? ⟨S, 1, none⟩ = some (.int .i64 s.till) ∧ w2.cell? ⟨S, 2, none⟩ = some (.int .i64 s.fin) ∧ w2.cell? ⟨S, 3, none⟩ = some (.slice aS nS cS) := ⟨HM.out.sm.k0, HM.out.sm.k1, HM.out.sm.k2, HM.out.sm.k3⟩
  have hlS : S < w2.heap.size := World.block_lt_of_cell? w2 _ z0
  obtain ⟨qf, hqf⟩ : ∃ q, q = ((decide (nC ≤ 30) && decide (nH ≤ 60)) && (decide (nm.size ≤ 50) && (decide (nT ≤ 20) && decide (nS ≤ 60)))) := ⟨_, rfl⟩
  rw [← hqf]
  clear hqf
  cases qf
  · go_wp2_with fail
    go_ret
    exact ⟨rfl, HM.out.bel⟩
  by_cases h4 : nK ≤ 4
  case neg =>
    have h4z : (4 : Int) < (nK : Int) := by omega
    go_wp2_with fail
    go_ret
    exact ⟨rfl, HM.out.bel⟩
  have h4z : ¬ (4 : Int) < (nK : Int) := by omega
  go_wp2_with fail
  refine (lhPrice_any nm aT nT cT ar aC nC cC aH nH cH c aS nS cS s aK nK cK ks _ (Lib.hid HM.out.tm.rd) (Lib.hid HM.out.cm.rd) (Lib.hid HM.out.sm.rd) (HK0.out.keep HM.out.bel) HLK.out (by omega) HKW.out).mono ?_
  rintro e w3 ⟨rfl, hb1⟩
  have HM := Lib.hid (HM.out.keep hb1)
  clear hb1
  clear t0 t1 hlT k0 k1 k2 hlX z0 z1 z2 z3 hlS
  have HLAW : Hid ((priceR nm ar c s ks).2 = 0 → (trfB nm ar = true ∧ ∀ a ∈ ar, a.kind = 5 → (priceR nm ar c s ks).1 ≤ ((ks.length : Int) + 1) * (a.price + (a.price * rateF 0 ar + 5000) / 10000))) := Lib.hid price_cap
  generalize (priceR nm ar c s ks).1 = pv at *
  generalize (priceR nm ar c s ks).2 = pe at *
  by_cases hpe : pe = 0
  case neg =>
    have hz2 : (pe != 0) = true := by simpa using hpe
    go_wp2_with fail
    go_ret
    exact ⟨rfl, HM.out.bel⟩
  subst hpe
  obtain ⟨htf, hlaw⟩ := HLAW.out rfl
  have HTL := Lib.hid (trfB_iff htf)
  have HLW := Lib.hid hlaw
  have hn12 : nT ≤ 12 := by rw [← HQ.out.la]; exact HTL.out.1
  clear htf hlaw HLAW
  obtain ⟨t0, t1⟩ : w3.cell? ⟨T, 0, none⟩ = some (.string nm) ∧ w3.cell? ⟨T, 1, none⟩ = some (.slice aT nT cT) := ⟨HM.out.tm.k0, HM.out.tm.k1⟩
  have hlT : T < w3.heap.size := World.block_lt_of_cell? w3 _ t0
  go_wp2_with fail
  have HR0 : Hid (rateF 0 ar = rateF 0 (ar.drop 0)) := Lib.hid rfl
  clear t0 t1 hlT
  go_loopg [12, 43] nT (fun g1 v12 v43 wr => ∃ (i : Nat) (r : Int), v12 = .int .i64 r ∧ v43 = .int .i64 i ∧ i ≤ nT ∧ nT - i ≤ g1 ∧ Hid (rateF 0 ar = rateF r (ar.drop i)) ∧ Hid (TCS w wr T X S nm aT nT cT ar aC nC cC aH nH cH c aS nS cS s))
  case atStart => exact ⟨0, 0, rfl, by go_num, by omega, by omega, HR0, HM⟩
  case round =>
    clear HR0 HM
    obtain ⟨i, r, rfl, rfl, hi, hg1, HR, HM⟩ := hrel
    obtain ⟨t0, t1⟩ : wr.cell? ⟨T, 0, none⟩ = some (.string nm) ∧ wr.cell? ⟨T, 1, none⟩ = some (.slice aT nT cT) := ⟨HM.out.tm.k0, HM.out.tm.k1⟩
    have hlT : T < wr.heap.size := World.block_lt_of_cell? wr _ t0
    by_cases hlt : i < nT
    · have hltz : (i : Int) < (nT : Int) := by omega
      obtain ⟨bb, off, a, hA, hbl, hgx, c0, c1, c2, c3, c4, c5, c6⟩ := rdArt_at HM.out.tm.rd.ra (show i < ar.length by rw [HM.out.tm.rd.la]; exact hlt)
      have HAM : Hid (a ∈ ar) := Lib.hid (List.mem_of_getElem? hgx)
      have hap := art_price (HTL.out.2.1 a HAM.out)
      obtain ⟨hp0, hp1⟩ := hap
      have HR2 : Hid (rateF 0 ar = rateF (if a.kind == 6 then a.price else r) (ar.drop (i + 1))) := Lib.hid (by rw [HR.out, drop_at hgx]; rfl)
      clear HR hgx t0 t1 hlT
      subst hA
      obtain ⟨W1, hW1⟩ : ∃ W, W = wr.alloc (.cells #[.int .i64 a.kind, .int .i64 a.days, .int .i64 a.frm, .int .i64 a.till, .int .i64 a.price, .int .i64 a.unit, .int .i64 a.free] 49) := ⟨_, rfl⟩
      obtain ⟨Y, hY⟩ : ∃ Y, Y = wr.heap.size := ⟨_, rfl⟩
      have HA : Hid (ArtM wr W1 Y a) := Lib.hid (by rw [hW1, hY]; exact ArtM.box (Below.refl _ _))
      have HM := Lib.hid (HM.out.keep HA.out.bel)
      have HWY := Lib.hid (And.intro hW1.symm hY.symm)
      clear hW1 hY
      go_upto_region 11 with (fail)
      rw [HWY.out.1, HWY.out.2]
      clear c0 c1 c2 c3 c4 c5 c6 HWY
      have y0 : W1.cell? ⟨Y, 0, none⟩ = some (.int .i64 a.kind) := HA.out.k0
      have y4 : W1.cell? ⟨Y, 4, none⟩ = some (.int .i64 a.price) := HA.out.k4
      have hlY : Y < W1.heap.size := World.block_lt_of_cell? W1 _ y0
      obtain ⟨q, hq⟩ : ∃ q, (a.kind == 6) = q := ⟨_, rfl⟩
      rw [hq] at HR2
      cases q
      · go_wp2_with fail
        go_roundg (nT - (i + 1))
        case measure => omega
        case rel => exact ⟨i + 1, r, rfl, by go_num, by omega, by omega, HR2, HM⟩
      · go_wp2_with fail
        go_roundg (nT - (i + 1))
        case measure => omega
        case rel => exact ⟨i + 1, a.price, rfl, by go_num, by omega, by omega, HR2, HM⟩
    · have hltz : ¬ (i : Int) < (nT : Int) := by omega
      have HRR : Hid (rateF 0 ar = r) := Lib.hid (by rw [HR.out, List.drop_eq_nil_of_le (by rw [HM.out.tm.rd.la]; omega)]; rfl)
      have HRB : Hid (0 ≤ r ∧ r ≤ 10000) := Lib.hid (by rw [← HRR.out]; exact rateF_bd ar 0 (by omega) (by omega) HTL.out.2.1)
      clear HR
      go_wp2_with fail
      clear t0 t1 hlT
      go_loopg [56] nT (fun g1 v56 wr => ∃ i : Nat, v56 = .int .i64 i ∧ i ≤ nT ∧ nT - i ≤ g1 ∧ Hid (TCS w wr T X S nm aT nT cT ar aC nC cC aH nH cH c aS nS cS s))
      case atStart => exact ⟨0, by go_num, by omega, by omega, HM⟩
      case round =>
        clear HM hi hg1 hlt hltz
        obtain ⟨i, rfl, hi, hg1, HM⟩ := hrel
        obtain ⟨t0, t1⟩ : wr.cell? ⟨T, 0, none⟩ = some (.string nm) ∧ wr.cell? ⟨T, 1, none⟩ = some (.slice aT nT cT) := ⟨HM.out.tm.k0, HM.out.tm.k1⟩
        have hlT : T < wr.heap.size := World.block_lt_of_cell? wr _ t0
        by_cases hlt : i < nT
        · have hltz : (i : Int) < (nT : Int) := by omega
          obtain ⟨bb, off, a, hA, hbl, hgx, c0, c1, c2, c3, c4, c5, c6⟩ := rdArt_at HM.out.tm.rd.ra (show i < ar.length by rw [HM.out.tm.rd.la]; exact hlt)
          have HAM : Hid (a ∈ ar) := Lib.hid (List.mem_of_getElem? hgx)
          have hap := art_price (HTL.out.2.1 a HAM.out)
          obtain ⟨hp0, hp1⟩ := hap
          clear hgx t0 t1 hlT
          subst hA
          obtain ⟨W1, hW1⟩ : ∃ W, W = wr.alloc (.cells #[.int .i64 a.kind, .int .i64 a.days, .int .i64 a.frm, .int .i64 a.till, .int .i64 a.price, .int .i64 a.unit, .int .i64 a.free] 49) := ⟨_, rfl⟩
          obtain ⟨Y, hY⟩ : ∃ Y, Y = wr.heap.size := ⟨_, rfl⟩
          have HA : Hid (ArtM wr W1 Y a) := Lib.hid (by rw [hW1, hY]; exact ArtM.box (Below.refl _ _))
          have HM := Lib.hid (HM.out.keep HA.out.bel)
          have HWY := Lib.hid (And.intro hW1.symm hY.symm)
          clear hW1 hY
          go_upto_region 17 with (fail)
          rw [HWY.out.1, HWY.out.2]
          clear c0 c1 c2 c3 c4 c5 c6 HWY
          have y0 : W1.cell? ⟨Y, 0, none⟩ = some (.int .i64 a.kind) := HA.out.k0
          have y4 : W1.cell? ⟨Y, 4, none⟩ = some (.int .i64 a.price) := HA.out.k4
          have hlY : Y < W1.heap.size := World.block_lt_of_cell? W1 _ y0
          obtain ⟨q, hq⟩ : ∃ q, (a.kind == 5) = q := ⟨_, rfl⟩
          cases q
          · go_wp2_with fail
            go_roundg (nT - (i + 1))
            case measure => omega
            case rel => exact ⟨i + 1, by go_num, by omega, by omega, HM⟩
          · have HLE : Hid (pv ≤ ((nK : Int) + 1) * (a.price + (a.price * r + 5000) / 10000)) := Lib.hid (by
              have h := HLW.out a HAM.out (by simpa using hq)
              rw [HLK.out, HRR.out] at h
              exact h)
            obtain ⟨hr0, hr1⟩ := HRB.out
            obtain ⟨m0, m1⟩ : 0 ≤ a.price * r ∧ a.price * r ≤ 10000000000 := ⟨Int.mul_nonneg hp0 hr0, Int.le_trans (Int.mul_le_mul hp1 hr1 hr0 (by omega)) (by decide)⟩
            have hd : (a.price * r + 5000).tdiv 10000 = (a.price * r + 5000) / 10000 := Int.tdiv_eq_ediv_of_nonneg (by omega)
            obtain ⟨D, hD⟩ : ∃ D, D = (a.price * r + 5000) / 10000 := ⟨_, rfl⟩
            rw [← hD] at hd HLE
            have hD0 : 0 ≤ D ∧ D ≤ 1000001 := by omega
            obtain ⟨hD0, hD1⟩ := hD0
            obtain ⟨P, hP⟩ : ∃ P, P = ((nK : Int) + 1) * (a.price + D) := ⟨_, rfl⟩
            have hPb : 0 ≤ P ∧ P ≤ 5 * 2000001 := by
              rw [hP]
              exact ⟨Int.mul_nonneg (by omega) (by omega), Int.mul_le_mul (by omega) (by omega) (by omega) (by omega)⟩
            obtain ⟨hP0, hP1⟩ := hPb
            rw [← hP] at HLE
            have hle : ¬ P < pv := by have := HLE.out; omega
            have w1' : IntKind.i64.wrap (a.price * r) = a.price * r := IntWalk.i64_in _ (by omega)
            have w2' : IntKind.i64.wrap (a.price * r + 5000) = a.price * r + 5000 := IntWalk.i64_in _ (by omega)
            have w3' : IntKind.i64.wrap (a.price + D) = a.price + D := IntWalk.i64_in _ (by omega)
            have w4' : IntKind.i64.wrap ((nK : Int) + 1) = (nK : Int) + 1 := IntWalk.i64_in _ (by omega)
            have hPs := hP.symm
            have w5' : IntKind.i64.wrap P = P := IntWalk.i64_in _ (by omega)
            have w6' : IntKind.i64.wrap D = D := IntWalk.i64_in _ (by omega)
            clear hP hD
            go_wp2_with fail
            go_roundg (nT - (i + 1))
            case measure => omega
            case rel => exact ⟨i + 1, by go_num, by omega, by omega, HM⟩
        · have hltz : ¬ (i : Int) < (nT : Int) := by omega
          go_wp2_with fail
          go_ret
          exact ⟨rfl, HM.out.bel⟩
end Go.Proofs.YtoekpdnpncgeeaaGreat
