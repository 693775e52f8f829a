/-
TopPartsQuoted: the walk.
-/
import Derived.Test.YtoekpdnpncgeeaaGreatGTfU
import Derived.Test.YtoekpdnpncgeeaaGreatCTpQ1
namespace Go.Proofs.YtoekpdnpncgeeaaGreat
open Go.RowKit
set_option linter.unusedVariables false
set_option linter.unusedSimpArgs false
theorem rd_ltQ {α : Type} {sz : Nat} {enc : α → List Value} {w : World} {A : Option Addr} {xs : List α} (h : Rd sz enc w A xs) (h0 : xs ≠ []) : ∀ a, A = some a → a.block < w.heap.size := by
  intro a ha
  obtain ⟨b, off, x, hA, hb, _⟩ := h.at_ (List.length_pos_iff.2 h0)
  rw [ha] at hA
  injection hA with hA
  subst hA
  exact hb
theorem TCS.modC {w W W' : World} {T X S L : Nat} {nm : ByteArray} {aT : Option Addr} {nT cT : Nat} {ar : List Art} {aC : Option Addr} {nC cC : Nat} {aH : Option Addr} {nH cH : Nat} {c : Cal} {aS : Option Addr} {nS cS : Nat} {s : Ses} {M : Nat → Prop} (h : TCS w W T X S nm aT nT cT ar aC nC cC aH nH cH c aS nS cS s) (hq : RdTrf w nm aT nT ar) (hc : RdCal w aC nC aH nH c) (hs : RdSes w aS nS s) (hm : Mod M W W') (hM : ∀ j, j < W.heap.size → M j → L ≤ j) (hl : T < L ∧ X < L ∧ S < L ∧ w.heap.size ≤ L) : TCS w W' T X S nm aT nT cT ar aC nC cC aH nH cH c aS nS cS s := by
  have hb : Below w.heap.size w W' := h.bel.trans (hm.below h.bel.size (fun j hj e => by have := hM j hj e; omega))
  have hx : ∀ {p : Addr} {v : Value}, W.cell? p = some v → p.block < L → W'.cell? p = some v := fun hc hn => (hm.cell (World.block_lt_of_cell? _ _ hc) (fun e => by have := hM _ (World.block_lt_of_cell? _ _ hc) e; omega)).trans hc
  exact ⟨⟨hb, hx h.tm.k0 hl.1, hx h.tm.k1 hl.1, hq.keep hb⟩, ⟨hb, hx h.cm.k0 hl.2.1, hx h.cm.k1 hl.2.1, hx h.cm.k2 hl.2.1, hc.keep hb⟩, ⟨hb, hx h.sm.k0 hl.2.2.1, hx h.sm.k1 hl.2.2.1, hx h.sm.k2 hl.2.2.1, hx h.sm.k3 hl.2.2.1, hs.keep hb⟩⟩
set_option maxRecDepth 100000 in
set_option maxHeartbeats 16000000 in
theorem walk_TopPartsQuoted (nm : ByteArray) (aT : Option Addr) (nT cT : Nat) (ar : List Art) (aC : Option Addr) (nC cC : Nat) (aH : Option Addr) (nH cH : Nat) (c : Cal) (aS : Option Addr) (nS cS : Nat) (s : Ses) (aK : Option Addr) (nK cK : Nat) (ks : List Int) (w : World) (HQ : Hid (RdTrf w nm aT nT ar)) (HC : Hid (RdCal w aC nC aH nH c)) (HS : Hid (RdSes w aS nS s)) (hsl : -9223372036854775808 ≤ s.frm) (hr : Rd 1 encI w aK ks) (hk : ks.length = nK) (hk6 : nK ≤ 9223372036854775807) (hkw : ∀ x ∈ ks, x ≤ 9223372036854775807) : Calls Tryz.prog 5 #[.agg #[.string nm, .slice aT nT cT], .agg #[.int .i64 c.off, .slice aC nC cC, .slice aH nH cH], .agg #[.int .i64 s.frm, .int .i64 s.till, .int .i64 s.fin, .slice aS nS cS], .slice aK nK cK] w fun e w' => e = .returned (.bool true) ∧ Below w.heap.size w w' := by
  have HLK : Hid (ks.length = nK) := Lib.hid hk
  have HK0 := Lib.hid hr
  have HFT : Hid (-9223372036854775808 ≤ s.frm ∧ s.till ≤ 9223372036854775807) := Lib.hid ⟨hsl, HS.out.wt⟩
  clear hk hr hkw hsl
  obtain ⟨W0, hW0⟩ : ∃ W0, W0 = ((w.alloc (.cells #[.string nm, .slice aT nT cT] 24)).alloc (.cells #[.int .i64 c.off, .slice aC nC cC, .slice aH nH cH] 28)).alloc (.cells #[.int .i64 s.frm, .int .i64 s.till, .int .i64 s.fin, .slice aS nS cS] 31) := ⟨_, rfl⟩
  obtain ⟨B, hB⟩ : ∃ B, B = w.heap.size := ⟨_, rfl⟩
  have HM : Hid (TCS w W0 B (B + 1) (B + 1 + 1) nm aT nT cT ar aC nC cC aH nH cH c aS nS cS s) := Lib.hid (by rw [hW0, hB]; exact TCS.start HQ.out HC.out HS.out)
  have HW0 := Lib.hid hW0
  have HB0 := Lib.hid hB
  clear hW0 hB
  go_enter Tryz.func5, Tryz.ntmps5
  go_upto_region 1 with (fail)
  rw [← HW0.out, ← HB0.out]
  clear HW0 HB0
  obtain ⟨T, hT⟩ : ∃ T, T = B := ⟨_, rfl⟩
  obtain ⟨X, hX⟩ : ∃ T, T = B + 1 := ⟨_, rfl⟩
  obtain ⟨S, hS⟩ : ∃ T, T = B + 1 + 1 := ⟨_, rfl⟩
  rw [← hS, ← hX, ← hT] at HM ⊢
  clear hT hX hS
  go_wp2_with fail
  refine (tpHead20 W0).mono ?_
  rintro e w1 ⟨rfl, hb1⟩
  have HM := Lib.hid (HM.out.keep hb1)
  clear hb1
  obtain ⟨t0, t1⟩ : w1.cell? ⟨T, 0, none⟩ = some (.string nm) ∧ w1.cell? ⟨T, 1, none⟩ = some (.slice aT nT cT) := ⟨HM.out.tm.k0, HM.out.tm.k1⟩
  have hlT : T < w1.heap.size := World.block_lt_of_cell? w1 _ t0
  obtain ⟨k0, k1, k2⟩ : w1.cell? ⟨X, 0, none⟩ = some (.int .i64 c.off) ∧ w1.cell? ⟨X, 1, none⟩ = some (.slice aC nC cC) ∧ w1.cell? ⟨X, 2, none⟩ = some (.slice aH nH cH) := ⟨HM.out.cm.k0, HM.out.cm.k1, HM.out.cm.k2⟩
  have hlX : X < w1.heap.size := World.block_lt_of_cell? w1 _ k0
  obtain ⟨z0, z1, z2, z3⟩ : w1.cell? ⟨S, 0, none⟩ = some (.int .i64 s.frm) ∧ w1.cell? ⟨S, 1, none⟩ = some (.int .i64 s.till) ∧ w1.cell? ⟨S, 2, none⟩ = some (.int .i64 s.fin) ∧ w1.cell? ⟨S, 3, none⟩ = some (.slice aS nS cS) := ⟨HM.out.sm.k0, HM.out.sm.k1, HM.out.sm.k2, HM.out.sm.k3⟩
  have hlS : S < w1.heap.size := World.block_lt_of_cell? w1 _ z0
  go_wp2_with fail
  refine (r33Few_any nm aT nT cT ar aC nC cC aH nH cH c aS nS cS s _ (Lib.hid HM.out.tm.rd) (Lib.hid HM.out.cm.rd) (Lib.hid HM.out.sm.rd)).mono ?_
  rintro e w2 ⟨rfl, hb1⟩
  have HM := Lib.hid (HM.out.keep hb1)
  clear hb1
  clear t0 t1 hlT k0 k1 k2 hlX z0 z1 z2 z3 hlS
  obtain ⟨z0, z1, z2, z3⟩ : w2.cell? ⟨S, 0, none⟩ = some (.int .i64 s.frm) ∧ w2.cell? ⟨S, 1, none⟩ = some (.int .i64 s.till) ∧ w2.cell? ⟨S, 2, none⟩ = some (.int .i64 s.fin) ∧ w2.cell? ⟨S, 3, none⟩ = some (.slice aS nS cS) := ⟨HM.out.sm.k0, HM.out.sm.k1, HM.out.sm.k2, HM.out.sm.k3⟩
  have hlS : S < w2.heap.size := World.block_lt_of_cell? w2 _ z0
  obtain ⟨qf, hqf⟩ : ∃ q, q = ((decide (nC ≤ 30) && decide (nH ≤ 60)) && (decide (nm.size ≤ 50) && (decide (nT ≤ 20) && decide (nS ≤ 60)))) := ⟨_, rfl⟩
  rw [← hqf]
  have HQF := Lib.hid hqf
  clear hqf
  cases qf
  · go_wp2_with fail
    go_ret
    exact ⟨rfl, HM.out.bel⟩
  have HS60 : Hid (nS ≤ 60) := Lib.hid (by have h := HQF.out.symm; simp only [Bool.and_eq_true, decide_eq_true_eq] at h; exact h.2.2.2)
  clear HQF
  by_cases h4 : nK ≤ 4
  case neg =>
    have h4z : (4 : Int) < (nK : Int) := by omega
    go_wp2_with fail
    go_ret
    exact ⟨rfl, HM.out.bel⟩
  have h4z : ¬ (4 : Int) < (nK : Int) := by omega
  go_wp2_with fail
  have hs60 := HS60.out
  have HE0 : Hid ((0 : Int) = enL (s.sl.take 0)) := Lib.hid rfl
  clear z0 z1 z2 z3 hlS
  go_loopg [10, 40] nS (fun g1 v10 v40 wr => ∃ (i : Nat) (z : Int), v10 = .int .i64 z ∧ v40 = .int .i64 i ∧ i ≤ nS ∧ nS - i ≤ g1 ∧ -(i : Int) ≤ z ∧ z ≤ 20000 * (i : Int) ∧ Hid (z = enL (s.sl.take i)) ∧ Hid (TCS w wr T X S nm aT nT cT ar aC nC cC aH nH cH c aS nS cS s))
  case atStart => exact ⟨0, 0, rfl, by go_num, by omega, by omega, by omega, by omega, HE0, HM⟩
  case round =>
    clear HE0 HM
    obtain ⟨i, z, rfl, rfl, hi, hg1, hz0, hz1, HE, HM⟩ := hrel
    obtain ⟨z0, z1, z2, z3⟩ : wr.cell? ⟨S, 0, none⟩ = some (.int .i64 s.frm) ∧ wr.cell? ⟨S, 1, none⟩ = some (.int .i64 s.till) ∧ wr.cell? ⟨S, 2, none⟩ = some (.int .i64 s.fin) ∧ wr.cell? ⟨S, 3, none⟩ = some (.slice aS nS cS) := ⟨HM.out.sm.k0, HM.out.sm.k1, HM.out.sm.k2, HM.out.sm.k3⟩
    have hlS : S < wr.heap.size := World.block_lt_of_cell? wr _ z0
    by_cases hlt : i < nS
    · have hltz : (i : Int) < (nS : Int) := by omega
      obtain ⟨bb, off, x, hA, hbl, hgx, hc0, hc1⟩ := rdSlc_at HM.out.sm.rd.rs (show i < s.sl.length by rw [HM.out.sm.rd.ls]; exact hlt)
      subst hA
      obtain ⟨y, hy⟩ : ∃ y, y = min 20000 (max (-1) x.en) := ⟨_, rfl⟩
      have HE2 : Hid (z + y = enL (s.sl.take (i + 1))) := Lib.hid (by rw [enL_take hgx, ← HE.out, hy])
      have hyb : -1 ≤ y ∧ y ≤ 20000 := by omega
      obtain ⟨hy0, hy1⟩ := hyb
      have wz : IntKind.i64.wrap (z + y) = z + y := IntWalk.i64_in _ (by omega)
      have HY := Lib.hid hy
      clear hgx hy HE
      obtain ⟨w3, hw3⟩ : ∃ W, W = wr.alloc (.cells #[.int .i64 x.mn, .int .i64 x.en] 37) := ⟨_, rfl⟩
      obtain ⟨Z, hZ⟩ : ∃ Z, Z = wr.heap.size := ⟨_, rfl⟩
      have hb3 : Below wr.heap.size wr w3 := by rw [hw3]; exact (Below.refl _ _).alloc (Nat.le_refl _) _
      have e1 : w3.cell? ⟨Z, 1, none⟩ = some (.int .i64 x.en) := by rw [hw3, hZ]; go_simp
      have hlZ : Z < w3.heap.size := World.block_lt_of_cell? w3 _ e1
      have HM := Lib.hid (HM.out.keep hb3)
      have HW3 := Lib.hid (And.intro hw3.symm hZ.symm)
      clear hw3 hZ hb3
      go_upto_region 8 with (fail)
      rw [HW3.out.1, HW3.out.2]
      clear HW3 hc0 hc1 z0 z1 z2 z3 hlS
      by_cases m1 : x.en ≤ -1
      · have hyv : y = -1 := by rw [HY.out]; omega
        subst hyv
        go_wp2_with fail
        go_roundg (nS - (i + 1))
        case measure => omega
        case rel => exact ⟨i + 1, z + -1, rfl, by go_num, by omega, by omega, by omega, by omega, HE2, HM⟩
      · by_cases m2 : x.en < 20000
        · have hyv : y = x.en := by rw [HY.out]; omega
          subst hyv
          go_wp2_with fail
          go_roundg (nS - (i + 1))
          case measure => omega
          case rel => exact ⟨i + 1, z + x.en, rfl, by go_num, by omega, by omega, by omega, by omega, HE2, HM⟩
        · have hyv : y = 20000 := by rw [HY.out]; omega
          subst hyv
          go_wp2_with fail
          go_roundg (nS - (i + 1))
          case measure => omega
          case rel => exact ⟨i + 1, z + 20000, rfl, by go_num, by omega, by omega, by omega, by omega, HE2, HM⟩
    · have hltz : ¬ (i : Int) < (nS : Int) := by omega
      have hzE : z = enL s.sl := by rw [HE.out, List.take_of_length_le (by rw [HM.out.sm.rd.ls]; omega)]
      subst hzE
      clear HE hz0 hz1
      obtain ⟨t0, t1⟩ : wr.cell? ⟨T, 0, none⟩ = some (.string nm) ∧ wr.cell? ⟨T, 1, none⟩ = some (.slice aT nT cT) := ⟨HM.out.tm.k0, HM.out.tm.k1⟩
      have hlT : T < wr.heap.size := World.block_lt_of_cell? wr _ t0
      obtain ⟨k0, k1, k2⟩ : wr.cell? ⟨X, 0, none⟩ = some (.int .i64 c.off) ∧ wr.cell? ⟨X, 1, none⟩ = some (.slice aC nC cC) ∧ wr.cell? ⟨X, 2, none⟩ = some (.slice aH nH cH) := ⟨HM.out.cm.k0, HM.out.cm.k1, HM.out.cm.k2⟩
      have hlX : X < wr.heap.size := World.block_lt_of_cell? wr _ k0
      go_wp2_with fail
      refine (qQuote_any nm aT nT cT ar aC nC cC aH nH cH c s.frm s.till (enL s.sl) _ (Lib.hid HM.out.tm.rd) (Lib.hid HM.out.cm.rd) HFT.out.1 HFT.out.2).mono ?_
      rintro e w3 ⟨rfl, hb1⟩
      have HM := Lib.hid (HM.out.keep hb1)
      clear hb1
      clear t0 t1 hlT k0 k1 k2 hlX z0 z1 z2 z3 hlS
      obtain ⟨z0, z1, z2, z3⟩ : w3.cell? ⟨S, 0, none⟩ = some (.int .i64 s.frm) ∧ w3.cell? ⟨S, 1, none⟩ = some (.int .i64 s.till) ∧ w3.cell? ⟨S, 2, none⟩ = some (.int .i64 s.fin) ∧ w3.cell? ⟨S, 3, none⟩ = some (.slice aS nS cS) := ⟨HM.out.sm.k0, HM.out.sm.k1, HM.out.sm.k2, HM.out.sm.k3⟩
      have hlS : S < w3.heap.size := World.block_lt_of_cell? w3 _ z0
      have HLAW : Hid ((quoR nm ar c s.frm s.till (enL s.sl)).2 = 0 → sesB s = true → ∀ p : Ses, PartOf s p → billE nm ar c p = 0 ∧ (billV nm ar c p).total ≤ (quoR nm ar c s.frm s.till (enL s.sl)).1) := Lib.hid (fun h1 h2 p hp => part_quoted h2 h1 hp)
      obtain ⟨qv, hqv⟩ : ∃ q, q = (quoR nm ar c s.frm s.till (enL s.sl)).1 := ⟨_, rfl⟩
      obtain ⟨qe, hqe0⟩ : ∃ q, q = (quoR nm ar c s.frm s.till (enL s.sl)).2 := ⟨_, rfl⟩
      rw [← hqv, ← hqe0] at HLAW ⊢
      clear hqv hqe0
      by_cases hqe : qe = 0
      case neg =>
        have hz2 : (qe != 0) = true := by simpa using hqe
        go_wp2_with fail
        go_ret
        exact ⟨rfl, HM.out.bel⟩
      subst hqe
      go_wp2_with fail
      refine (bValid_any aS nS cS s _ (Lib.hid HM.out.sm.rd)).mono ?_
      rintro e w4 ⟨rfl, hb1⟩
      have HM := Lib.hid (HM.out.keep hb1)
      clear hb1
      clear z0 z1 z2 z3 hlS
      obtain ⟨z0, z1, z2, z3⟩ : w4.cell? ⟨S, 0, none⟩ = some (.int .i64 s.frm) ∧ w4.cell? ⟨S, 1, none⟩ = some (.int .i64 s.till) ∧ w4.cell? ⟨S, 2, none⟩ = some (.int .i64 s.fin) ∧ w4.cell? ⟨S, 3, none⟩ = some (.slice aS nS cS) := ⟨HM.out.sm.k0, HM.out.sm.k1, HM.out.sm.k2, HM.out.sm.k3⟩
      have hlS : S < w4.heap.size := World.block_lt_of_cell? w4 _ z0
      cases hsb : sesB s
      · go_wp2_with fail
        go_ret
        exact ⟨rfl, HM.out.bel⟩
      have HLW : Hid (∀ p : Ses, PartOf s p → billE nm ar c p = 0 ∧ (billV nm ar c p).total ≤ qv) := Lib.hid (fun p hp => HLAW.out (by first | exact trivial | rfl) (by first | exact trivial | exact hsb | rfl) p hp)
      have HP0 : Hid (PartOf s s) := Lib.hid (PartOf.whole hsb)
      clear HLAW hsb
      obtain ⟨w5, hw5⟩ : ∃ W, W = w4.alloc (.cells #[.int .i64 s.frm, .int .i64 s.till, .int .i64 s.fin, .slice aS nS cS] 31) := ⟨_, rfl⟩
      obtain ⟨R, hR⟩ : ∃ R, R = w4.heap.size := ⟨_, rfl⟩
      have hb5 : Below w4.heap.size w4 w5 := by rw [hw5]; exact (Below.refl _ _).alloc (Nat.le_refl _) _
      have HR : Hid (Own w5 R 31 4 (seF s.frm s.till s.fin (.slice aS nS cS))) := Lib.hid (by rw [hw5]; exact Own.newAt _ 31 _ _ hR.symm (n := 4) rfl (fun i hi => by match i, hi with | 0, _ => rfl | 1, _ => rfl | 2, _ => rfl | 3, _ => rfl))
      have HRS : Hid (RdSes w5 aS nS s ∧ ∀ a, aS = some a → s.sl ≠ [] → a.block ≠ R) := Lib.hid ⟨HM.out.sm.rd.keep hb5, fun a ha hn e => by
        have := rd_ltQ HM.out.sm.rd.rs hn a ha
        omega⟩
      have HLL : Hid (T < R ∧ X < R ∧ S < R ∧ w.heap.size ≤ R) := Lib.hid (by rw [hR]; exact ⟨World.block_lt_of_cell? _ _ HM.out.tm.k0, World.block_lt_of_cell? _ _ HM.out.cm.k0, World.block_lt_of_cell? _ _ HM.out.sm.k0, HM.out.bel.size⟩)
      have HM := Lib.hid (HM.out.keep hb5)
      have HW5 := Lib.hid (And.intro hw5.symm hR.symm)
      clear hw5 hR hb5
      go_upto_region 14 with (fail)
      rw [HW5.out.1, HW5.out.2]
      clear HW5 z0 z1 z2 z3 hlS
      go_wp2_with fail
      go_loopg [73] nK (fun g1 v73 wr => ∃ (i : Nat) (va : Option Addr) (vn vc : Nat) (p : Ses), v73 = .int .i64 i ∧ i ≤ nK ∧ nK - i ≤ g1 ∧ Hid (PartOf s p) ∧ Hid (TCS w wr T X S nm aT nT cT ar aC nC cC aH nH cH c aS nS cS s) ∧ Hid (Own wr R 31 4 (seF p.frm p.till p.fin (.slice va vn vc))) ∧ Hid (RdSes wr va vn p ∧ ∀ a, va = some a → p.sl ≠ [] → a.block ≠ R))
      case atStart => exact ⟨0, aS, nS, cS, s, by go_num, by omega, by omega, HP0, HM, HR, HRS⟩
      case round =>
        clear HP0 HM HR HRS hi hg1 hlt hltz
        obtain ⟨i, va, vn, vc, p, rfl, hi, hg1, HP, HM, HR, HRS⟩ := hrel
        obtain ⟨r0, r1, r2, r3⟩ : wr.cell? ⟨R, 0, none⟩ = some (.int .i64 p.frm) ∧ wr.cell? ⟨R, 1, none⟩ = some (.int .i64 p.till) ∧ wr.cell? ⟨R, 2, none⟩ = some (.int .i64 p.fin) ∧ wr.cell? ⟨R, 3, none⟩ = some (.slice va vn vc) := ⟨HR.out.cell (i := 0) (by omega), HR.out.cell (i := 1) (by omega), HR.out.cell (i := 2) (by omega), HR.out.cell (i := 3) (by omega)⟩
        have hlR : R < wr.heap.size := HR.out.lt
        by_cases hlt : i < nK
        · have hltz : (i : Int) < (nK : Int) := by omega
          obtain ⟨bb, off, x, hA, hbl, hgx, hc0⟩ := rdI_at (HK0.out.keep HM.out.bel) (show i < ks.length by rw [HLK.out]; exact hlt)
          clear hgx
          have HAK := Lib.hid hA
          subst hA
          go_wp2_with fail
          refine (lhSplit_any va vn vc p x _ (Lib.hid HRS.out.1)).mono ?_
          clear r0 r1 r2 r3 hlR hc0 hbl
          rintro e w5 (⟨hsp, A, An, Ac, B, Bn, Bc, rfl, hA1, hB1, hb1, hfB⟩ | ⟨hsp, rfl, hb1⟩)
          case inr =>
            have HM := Lib.hid (HM.out.keep hb1)
            clear hb1 hsp HR HRS
            go_wp2_with fail
            go_ret
            exact ⟨rfl, below_then HM.out.bel (((Below.refl _ _).alloc (Nat.le_refl _) _).alloc (by simp) _)⟩
          have HPP := Lib.hid (HP.out.split hsp)
          have HRL : Hid (R < wr.heap.size) := Lib.hid HR.out.lt
          have HR5 : Hid (R < w5.heap.size) := Lib.hid (Nat.lt_of_lt_of_le HR.out.lt hb1.size)
          have HM := Lib.hid (HM.out.keep hb1)
          have HR := Lib.hid (HR.out.keep hb1 HR.out.lt)
          have HA1 := Lib.hid hA1
          have HB1 : Hid (RdSes w5 B Bn (partS p x p.till) ∧ ∀ a, B = some a → a.block ≠ R) := Lib.hid ⟨hB1, fun a ha e => by have := hfB a ha; have := HRL.out; omega⟩
          clear hb1 hA1 hB1 hfB hsp HRS HP HRL
          obtain ⟨w6, hw6⟩ : ∃ W, W = w5.alloc (.cells #[.int .i64 p.frm, .int .i64 x, .int .i64 (partS p p.frm x).fin, .slice A An Ac] 31) := ⟨_, rfl⟩
          obtain ⟨U, hU⟩ : ∃ U, U = w5.heap.size := ⟨_, rfl⟩
          have hb6 : Below w5.heap.size w5 w6 := by rw [hw6]; exact (Below.refl _ _).alloc (Nat.le_refl _) _
          have HU : Hid (Own w6 U 31 4 (seF p.frm x (partS p p.frm x).fin (.slice A An Ac))) := Lib.hid (by rw [hw6]; exact Own.newAt _ 31 _ _ hU.symm (n := 4) rfl (fun i hi => by match i, hi with | 0, _ => rfl | 1, _ => rfl | 2, _ => rfl | 3, _ => rfl))
          obtain ⟨w7, hw7⟩ : ∃ W, W = w6.alloc (.cells #[.int .i64 x, .int .i64 p.till, .int .i64 (partS p x p.till).fin, .slice B Bn Bc] 31) := ⟨_, rfl⟩
          obtain ⟨V, hV⟩ : ∃ U, U = w6.heap.size := ⟨_, rfl⟩
          have hb7 : Below w6.heap.size w6 w7 := by rw [hw7]; exact (Below.refl _ _).alloc (Nat.le_refl _) _
          have HV : Hid (Own w7 V 31 4 (seF x p.till (partS p x p.till).fin (.slice B Bn Bc))) := Lib.hid (by rw [hw7]; exact Own.newAt _ 31 _ _ hV.symm (n := 4) rfl (fun i hi => by match i, hi with | 0, _ => rfl | 1, _ => rfl | 2, _ => rfl | 3, _ => rfl))
          have HU := Lib.hid (HU.out.keep hb7 HU.out.lt)
          have HR := Lib.hid ((HR.out.keep hb6 HR.out.lt).keep hb7 (Nat.lt_of_lt_of_le HR.out.lt hb6.size))
          have HM := Lib.hid ((HM.out.keep hb6).keep hb7)
          have HA1 := Lib.hid ((HA1.out.keep hb6).keep hb7)
          have HB1 := Lib.hid (And.intro ((HB1.out.1.keep hb6).keep hb7) HB1.out.2)
          have HUV : Hid (U ≠ V ∧ R ≠ U ∧ R ≠ V) := Lib.hid (by
            have e1 := HR5.out
            have e2 : w6.heap.size = w5.heap.size + 1 := by rw [hw6]; simp
            omega)
          have HW7 : Hid (w7 = (w5.alloc (.cells #[.int .i64 p.frm, .int .i64 x, .int .i64 (partS p p.frm x).fin, .slice A An Ac] 31)).alloc (.cells #[.int .i64 x, .int .i64 p.till, .int .i64 (partS p x p.till).fin, .slice B Bn Bc] 31) ∧ U = w5.heap.size ∧ V = U + 1) := Lib.hid ⟨by rw [hw7, hw6], hU, by rw [hV, hw6, hU]; simp⟩
          clear hw6 hw7 hU hV hb6 hb7 HR5
          have HCL : Hid (Calls Tryz.prog 10 #[.agg #[.string nm, .slice aT nT cT], .agg #[.int .i64 c.off, .slice aC nC cC, .slice aH nH cH], .agg #[.int .i64 p.frm, .int .i64 x, .int .i64 (partS p p.frm x).fin, .slice A An Ac]] w7 (BlPost nm ar c (partS p p.frm x) w7)) := Lib.hid (bBill_any nm aT nT cT ar aC nC cC aH nH cH c A An Ac (partS p p.frm x) w7 (Lib.hid HM.out.tm.rd) (Lib.hid HM.out.cm.rd) HA1)
          obtain ⟨P1, hP1⟩ : ∃ P, P = partS p p.frm x := ⟨_, rfl⟩
          obtain ⟨P2, hP2⟩ : ∃ P, P = partS p x p.till := ⟨_, rfl⟩
          have HF2 : Hid (P2.frm = x ∧ P2.till = p.till) := Lib.hid (by rw [hP2]; exact ⟨rfl, rfl⟩)
          rw [← hP1] at HPP HU HA1 HCL HW7
          rw [← hP2] at HPP HV HB1 HW7
          go_upto_region 18 with (fail)
          rw [← hP1, ← hP2]
          clear hP1 hP2
          try simp only [World.size_alloc]
          rw [← HW7.out.1, ← HW7.out.2.1, ← HW7.out.2.2]
          clear HW7
          obtain ⟨t0, t1⟩ : w7.cell? ⟨T, 0, none⟩ = some (.string nm) ∧ w7.cell? ⟨T, 1, none⟩ = some (.slice aT nT cT) := ⟨HM.out.tm.k0, HM.out.tm.k1⟩
          have hlT : T < w7.heap.size := World.block_lt_of_cell? w7 _ t0
          obtain ⟨k0, k1, k2⟩ : w7.cell? ⟨X, 0, none⟩ = some (.int .i64 c.off) ∧ w7.cell? ⟨X, 1, none⟩ = some (.slice aC nC cC) ∧ w7.cell? ⟨X, 2, none⟩ = some (.slice aH nH cH) := ⟨HM.out.cm.k0, HM.out.cm.k1, HM.out.cm.k2⟩
          have hlX : X < w7.heap.size := World.block_lt_of_cell? w7 _ k0
          obtain ⟨u0, u1, u2, u3⟩ : w7.cell? ⟨U, 0, none⟩ = some (.int .i64 p.frm) ∧ w7.cell? ⟨U, 1, none⟩ = some (.int .i64 x) ∧ w7.cell? ⟨U, 2, none⟩ = some (.int .i64 P1.fin) ∧ w7.cell? ⟨U, 3, none⟩ = some (.slice A An Ac) := ⟨HU.out.cell (i := 0) (by omega), HU.out.cell (i := 1) (by omega), HU.out.cell (i := 2) (by omega), HU.out.cell (i := 3) (by omega)⟩
          have hlU : U < w7.heap.size := HU.out.lt
          go_wp2_with fail
          refine HCL.out.mono ?_
          rintro e w8 ⟨A2, n2, c2, rfl, hn2, hr2, hb1⟩
          clear HCL hn2 hr2
          have HBQ := Lib.hid (HLW.out P1 HPP.out.1)
          generalize (billV nm ar c P1).total = bt at *
          generalize (billV nm ar c P1).net = bn at *
          generalize (billV nm ar c P1).tax = bx at *
          generalize billE nm ar c P1 = be at *
          obtain ⟨hbe, hbt⟩ := HBQ.out
          subst hbe
          have hbz : ¬ qv < bt := by omega
          have HM := Lib.hid (HM.out.keep hb1)
          have HR := Lib.hid (HR.out.keep hb1 HR.out.lt)
          have HV := Lib.hid (HV.out.keep hb1 HV.out.lt)
          have HB1 := Lib.hid (And.intro (HB1.out.1.keep hb1) HB1.out.2)
          clear hb1 HBQ hbt HU HA1 t0 t1 hlT k0 k1 k2 hlX u0 u1 u2 u3 hlU
          obtain ⟨w9, hw9⟩ : ∃ W, W = w8.alloc (.cells #[.slice A2 n2 c2, .int .i64 bn, .int .i64 bx, .int .i64 bt] 40) := ⟨_, rfl⟩
          obtain ⟨G, hG⟩ : ∃ U, U = w8.heap.size := ⟨_, rfl⟩
          have hb9 : Below w8.heap.size w8 w9 := by rw [hw9]; exact (Below.refl _ _).alloc (Nat.le_refl _) _
          have g3 : w9.cell? ⟨G, 3, none⟩ = some (.int .i64 bt) := by rw [hw9, hG]; go_simp
          have hlG : G < w9.heap.size := World.block_lt_of_cell? w9 _ g3
          have HM := Lib.hid (HM.out.keep hb9)
          have HR := Lib.hid (HR.out.keep hb9 HR.out.lt)
          have HV := Lib.hid (HV.out.keep hb9 HV.out.lt)
          have HB1 := Lib.hid (And.intro (HB1.out.1.keep hb9) HB1.out.2)
          have HW9 := Lib.hid (And.intro hw9.symm hG.symm)
          clear hw9 hG hb9
          go_upto_region 21 with (fail)
          rw [HW9.out.1, HW9.out.2]
          clear HW9
          obtain ⟨v0, v1, v2, v3⟩ : w9.cell? ⟨V, 0, none⟩ = some (.int .i64 x) ∧ w9.cell? ⟨V, 1, none⟩ = some (.int .i64 p.till) ∧ w9.cell? ⟨V, 2, none⟩ = some (.int .i64 P2.fin) ∧ w9.cell? ⟨V, 3, none⟩ = some (.slice B Bn Bc) := ⟨HV.out.cell (i := 0) (by omega), HV.out.cell (i := 1) (by omega), HV.out.cell (i := 2) (by omega), HV.out.cell (i := 3) (by omega)⟩
          have hlV : V < w9.heap.size := HV.out.lt
          obtain ⟨r0, r1, r2, r3⟩ : w9.cell? ⟨R, 0, none⟩ = some (.int .i64 p.frm) ∧ w9.cell? ⟨R, 1, none⟩ = some (.int .i64 p.till) ∧ w9.cell? ⟨R, 2, none⟩ = some (.int .i64 p.fin) ∧ w9.cell? ⟨R, 3, none⟩ = some (.slice va vn vc) := ⟨HR.out.cell (i := 0) (by omega), HR.out.cell (i := 1) (by omega), HR.out.cell (i := 2) (by omega), HR.out.cell (i := 3) (by omega)⟩
          have hlR : R < w9.heap.size := HR.out.lt
          have hne1 : ¬ R = V := HUV.out.2.2
          have hne2 : ¬ V = R := fun e => HUV.out.2.2 e.symm
          have f0 := HR.out.frozen 0
          have f1 := HR.out.frozen 1
          have f2 := HR.out.frozen 2
          have f3 := HR.out.frozen 3
          obtain ⟨wz, hwz⟩ : ∃ W, W = ((((w9.setCell ⟨R, 0, none⟩ (.int .i64 x)).setCell ⟨R, 1, none⟩ (.int .i64 p.till)).setCell ⟨R, 2, none⟩ (.int .i64 P2.fin)).setCell ⟨R, 3, none⟩ (.slice B Bn Bc)) := ⟨_, rfl⟩
          have HMZ : Hid (Mod (fun j => j = R) w9 wz) := Lib.hid (by rw [hwz]; exact modQ4 _ _ _ _ _ _)
          have HRZ : Hid (Own wz R 31 4 (seF P2.frm P2.till P2.fin (.slice B Bn Bc))) := Lib.hid (by rw [hwz, HF2.out.1, HF2.out.2]; exact ((((HR.out.set 0 _).set 1 _).set 2 _).set 3 _).congr (fun i hi => by match i, hi with | 0, _ => rfl | 1, _ => rfl | 2, _ => rfl | 3, _ => rfl))
          have HMW : Hid (TCS w wz T X S nm aT nT cT ar aC nC cC aH nH cH c aS nS cS s) := Lib.hid (HM.out.modC HQ.out HC.out HS.out HMZ.out (fun j _ e => by omega) HLL.out)
          have HBZ : Hid (RdSes wz B Bn P2 ∧ ∀ a, B = some a → P2.sl ≠ [] → a.block ≠ R) := Lib.hid ⟨HB1.out.1.mod' HMZ.out (fun a ha e => HB1.out.2 a ha e), fun a ha _ => HB1.out.2 a ha⟩
          have HWZ := Lib.hid hwz.symm
          have HPP2 := Lib.hid HPP.out.2
          clear hwz HR HM HV HB1 HPP
          go_wp2_with fail
          rw [HWZ.out]
          go_roundg (nK - (i + 1))
          case measure => omega
          case rel => exact ⟨i + 1, B, Bn, Bc, P2, by go_num, by omega, by omega, HPP2, HMW, HRZ, HBZ⟩
        · have hltz : ¬ (i : Int) < (nK : Int) := by omega
          obtain ⟨t0, t1⟩ : wr.cell? ⟨T, 0, none⟩ = some (.string nm) ∧ wr.cell? ⟨T, 1, none⟩ = some (.slice aT nT cT) := ⟨HM.out.tm.k0, HM.out.tm.k1⟩
          have hlT : T < wr.heap.size := World.block_lt_of_cell? wr _ t0
          obtain ⟨k0, k1, k2⟩ : wr.cell? ⟨X, 0, none⟩ = some (.int .i64 c.off) ∧ wr.cell? ⟨X, 1, none⟩ = some (.slice aC nC cC) ∧ wr.cell? ⟨X, 2, none⟩ = some (.slice aH nH cH) := ⟨HM.out.cm.k0, HM.out.cm.k1, HM.out.cm.k2⟩
          have hlX : X < wr.heap.size := World.block_lt_of_cell? wr _ k0
          have HBQ := Lib.hid (HLW.out p HP.out)
          go_wp2_with fail
          refine (bBill_any nm aT nT cT ar aC nC cC aH nH cH c va vn vc p _ (Lib.hid HM.out.tm.rd) (Lib.hid HM.out.cm.rd) (Lib.hid HRS.out.1)).mono ?_
          rintro e w8 ⟨A2, n2, c2, rfl, hn2, hr2, hb1⟩
          clear hn2 hr2
          generalize (billV nm ar c p).total = bt at *
          generalize (billV nm ar c p).net = bn at *
          generalize (billV nm ar c p).tax = bx at *
          generalize billE nm ar c p = be at *
          obtain ⟨hbe, hbt⟩ := HBQ.out
          subst hbe
          have HM := Lib.hid (HM.out.keep hb1)
          clear hb1 HBQ t0 t1 hlT k0 k1 k2 hlX r0 r1 r2 r3 hlR
          go_wp2_with fail
          go_ret
          exact ⟨ret_bool (by simp [hbt]), below_then HM.out.bel ((Below.refl _ _).alloc (Nat.le_refl _) _)⟩
end Go.Proofs.YtoekpdnpncgeeaaGreat
