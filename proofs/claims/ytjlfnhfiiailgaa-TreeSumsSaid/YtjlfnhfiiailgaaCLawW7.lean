/-
TreeSums, walked.
-/
import Derived.Test.YtjlfnhfiiailgaaCLawW7a
import Derived.IntWalk
namespace Go.Proofs.Ytjlfnhfiiailgaa
open Go.RowKit
set_option linter.unusedVariables false
set_option linter.unusedSimpArgs false
set_option maxRecDepth 100000 in
set_option maxHeartbeats 16000000 in
theorem walk_TreeSums (a1 : Option Addr) (n1 c1 : Nat) (a2 : Option Addr) (n2 c2 : Nat) (a3 : Option Addr) (n3 c3 : Nat) (a4 : Option Addr) (n4 c4 : Nat) (a5 : Option Addr) (n5 c5 : Nat) (s : GSite) {w : World} (HS : Hid (RdSite w a1 a2 a3 a4 a5 n1 n2 n3 n4 n5 s)) (_ : WfSite s) (B1 : Option Addr) (d1 e1 : Nat) (bs : List Int) (hX1 : Rd 1 encU8 w B1 bs) (HN1 : Hid (bs.length = e1)) (he1 : e1 ≤ 9223372036854775807) (hw1 : ∀ x, x ∈ bs → (Lit.int .u8 x).wf = true) :
    Calls Try.prog 6 #[.agg #[.slice a1 n1 c1, .slice a2 n2 c2, .slice a3 n3 c3, .slice a4 n4 c4, .slice a5 n5 c5], .slice B1 e1 d1] w fun e w' => e = .returned (.bool true) ∧ Below w.heap.size w w' := by
  have HB8 := Lib.hid (u8L_bd hw1)
  have HX1 := Lib.hid hX1
  have HM0 := Lib.hid (LwM.box (c1 := c1) (c2 := c2) (c3 := c3) (c4 := c4) (c5 := c5) HS.out)
  clear hX1 hw1
  go_enter Try.func6, Try.ntmps6
  go_wp2_with fail
  refine (ltHead_any _).mono ?_
  rintro e w1 ⟨rfl, hb⟩
  have HM := Lib.hid (HM0.out.keep hb)
  generalize hXX : w.heap.size = X at HM ⊢
  have HXX := Lib.hid hXX
  clear hb HM0 hXX
  have hlX : X < w1.heap.size := World.block_lt_of_cell? w1 _ HM.out.k0
  obtain ⟨k0, k1, k2, k3, k4⟩ : w1.cell? ⟨X, 0, none⟩ = some (.slice a1 n1 c1) ∧ w1.cell? ⟨X, 1, none⟩ = some (.slice a2 n2 c2) ∧ w1.cell? ⟨X, 2, none⟩ = some (.slice a3 n3 c3) ∧ w1.cell? ⟨X, 3, none⟩ = some (.slice a4 n4 c4) ∧ w1.cell? ⟨X, 4, none⟩ = some (.slice a5 n5 c5) := ⟨HM.out.k0, HM.out.k1, HM.out.k2, HM.out.k3, HM.out.k4⟩
  go_wp2_with fail
  refine (ltUsable_any a1 a2 a3 a4 a5 n1 c1 n2 c2 n3 c3 n4 c4 n5 c5 s w1 (Lib.hid HM.out.rs)).mono ?_
  rintro e w2 ⟨rfl, hb⟩
  have HM2 := Lib.hid (HM.out.keep hb)
  clear HM
  have HM := HM2
  clear HM2
  clear hb
  clear k0 k1 k2 k3 k4 hlX
  cases hf : usableB s
  · go_wp2_with fail
    go_ret
    exact ⟨rfl, HM.out.bel⟩
  have HOKB := Lib.hid (usableB_ok hf)
  have HOK := Lib.hid (okSB_iff.1 (usableB_ok hf))
  clear hf
  have hn4b : n4 ≤ 16 := by have := HOK.out.n5; have := HM.out.rs.l4; omega
  have hn1b : n1 ≤ 16 := by have := HOK.out.n2; have := HM.out.rs.l1; omega
  have hn1p : 0 < n1 := by have := HOK.out.n1; have := HM.out.rs.l1; omega
  have hlX : X < w2.heap.size := World.block_lt_of_cell? w2 _ HM.out.k0
  obtain ⟨k0, k1, k2, k3, k4⟩ : w2.cell? ⟨X, 0, none⟩ = some (.slice a1 n1 c1) ∧ w2.cell? ⟨X, 1, none⟩ = some (.slice a2 n2 c2) ∧ w2.cell? ⟨X, 2, none⟩ = some (.slice a3 n3 c3) ∧ w2.cell? ⟨X, 3, none⟩ = some (.slice a4 n4 c4) ∧ w2.cell? ⟨X, 4, none⟩ = some (.slice a5 n5 c5) := ⟨HM.out.k0, HM.out.k1, HM.out.k2, HM.out.k3, HM.out.k4⟩
  go_wp2_with fail
  refine (ltCurr_any a1 a2 a3 a4 a5 n1 c1 n2 c2 n3 c3 n4 c4 n5 c5 (by omega) B1 e1 d1 bs w2 (Lib.hid (HX1.out.keep HM.out.bel)) HN1 he1 HB8).mono ?_
  rintro e w3 ⟨g, hgg, rfl, ho, hb⟩
  have HM2 := Lib.hid (HM.out.keep hb)
  clear HM
  have HM := HM2
  clear HM2
  have HOa := Lib.hid ho
  have hXg : X < g := by omega
  have HCB := Lib.hid (fun i => curF_bd HB8.out i)
  clear ho hb hgg
  clear k0 k1 k2 k3 k4 hlX
  have hlX : X < w3.heap.size := World.block_lt_of_cell? w3 _ HM.out.k0
  obtain ⟨k0, k1, k2, k3, k4⟩ : w3.cell? ⟨X, 0, none⟩ = some (.slice a1 n1 c1) ∧ w3.cell? ⟨X, 1, none⟩ = some (.slice a2 n2 c2) ∧ w3.cell? ⟨X, 2, none⟩ = some (.slice a3 n3 c3) ∧ w3.cell? ⟨X, 3, none⟩ = some (.slice a4 n4 c4) ∧ w3.cell? ⟨X, 4, none⟩ = some (.slice a5 n5 c5) := ⟨HM.out.k0, HM.out.k1, HM.out.k2, HM.out.k3, HM.out.k4⟩
  go_wp2_with fail
  refine (ltLoads_amp a1 a2 a3 a4 a5 n1 c1 n2 c2 n3 c3 n4 c4 n5 c5 g n4 s (curF bs) w3 HM.out.rs HOKB.out HOa.out (fun i _ => HCB.out i)).mono ?_
  rintro e w4 ⟨px, cx, rfl, hr, hb⟩
  have HM3 := Lib.hid (HM.out.keep hb)
  clear HM
  have HM := HM3
  clear HM3
  have HAt := Lib.hid (HOa.out.keep hb HOa.out.lt)
  clear HOa
  have HOa := HAt
  clear HAt
  have HRx := Lib.hid hr
  clear hb hr
  clear k0 k1 k2 k3 k4 hlX
  have h4 : s.chgs.length = n4 := HM.out.rs.l4
  have h1 : s.cons.length = n1 := HM.out.rs.l1
  have HLS := Lib.hid (fun k p hp => load_sum HOK.out (curF bs) k p hp)
  have HLB := Lib.hid (fun j => loadS_bd (s := s) (am := curF bs) (m := s.chgs.length) (fun c _ => HCB.out c) j)
  rw [h4, h1] at HLS
  rw [h4] at HLB
  have HL4 := Lib.hid h4
  have HL1 := Lib.hid h1
  generalize hLL : loadS s (curF bs) n4 = L at *
  clear hLL h4 h1
  have HLB2 : Hid (∀ j, 0 ≤ L j ∧ L j ≤ ((1280 : Nat) : Int)) := Lib.hid (fun j => by have := HLB.out j; omega)
  have HAB := Lib.hid (fun k m p => ownA_bd (s := s) HCB.out k m p)
  have HFB := Lib.hid (fun k m p => fromB_bd (s := s) HLB2.out k m p)
  have HAS := Lib.hid (fun k m p => ownA_succ s (curF bs) k m p)
  have HFS := Lib.hid (fun k m p => fromB_succ s L k m p)
  have hxb : ∀ a, px = some a → a.block < w4.heap.size := fun a ha => by
    obtain ⟨b', off', hA', hb', _⟩ := HRx.out (by simpa using hn1p)
    rw [hA'] at ha
    cases ha
    exact hb'
  have HXB := Lib.hid hxb
  have hgl := HOa.out.lt
  have HGL := Lib.hid hgl
  have HWX := Lib.hid (show w.heap.size ≤ X by have := HXX.out; omega)
  clear hxb hgl
  have hlX : X < w4.heap.size := World.block_lt_of_cell? w4 _ HM.out.k0
  obtain ⟨k0, k1, k2, k3, k4⟩ : w4.cell? ⟨X, 0, none⟩ = some (.slice a1 n1 c1) ∧ w4.cell? ⟨X, 1, none⟩ = some (.slice a2 n2 c2) ∧ w4.cell? ⟨X, 2, none⟩ = some (.slice a3 n3 c3) ∧ w4.cell? ⟨X, 3, none⟩ = some (.slice a4 n4 c4) ∧ w4.cell? ⟨X, 4, none⟩ = some (.slice a5 n5 c5) := ⟨HM.out.k0, HM.out.k1, HM.out.k2, HM.out.k3, HM.out.k4⟩
  go_wp2_with fail
  clear k1 k2 k3 k4
  go_loopg [9, 36] n1 (fun g1 v9 v36 wr => ∃ k : Nat, v36 = .int .i64 k ∧ k ≤ n1 ∧ n1 - k ≤ g1 ∧ Hid (Below w4.heap.size w4 wr))
  case atStart => exact ⟨0, by go_num, by omega, by omega, Lib.hid (Below.refl _ _)⟩
  case round =>
    obtain ⟨k, rfl, hk, hg1, HW⟩ := hrel
    clear k0
    by_cases hlk : k < n1
    · have hlkz : (k : Int) < (n1 : Int) := by omega
      have HMk := Lib.hid (HM.out.keep HW.out)
      have HAk := Lib.hid (HOa.out.keep HW.out HOa.out.lt)
      have HRk := Lib.hid (HRx.out.keep HW.out)
      have hsz := HW.out.size
      obtain ⟨wv, hwv⟩ : ∃ wv, wv = wr.alloc (.cells #[.int .i64 0, .int .i64 0, .int .i64 0] 55) := ⟨_, rfl⟩
      have bwv : Below wr.heap.size wr wv := by rw [hwv]; exact (Below.refl _ wr).alloc (Nat.le_refl _) _
      have how : Own wv wr.heap.size 55 3 (fun i => .int .i64 0) := by
        rw [hwv]
        exact Own.newAt wr 55 #[.int .i64 0, .int .i64 0, .int .i64 0] wr.heap.size rfl rfl (fun i hi => by
          match i, hi with
          | 0, _ => rfl
          | 1, _ => rfl
          | 2, _ => rfl)
      have HSM : Hid (SmI w wv X a1 n1 c1 a2 n2 c2 a3 n3 c3 a4 n4 c4 a5 n5 c5 s g (curF bs) px L wr.heap.size (fun p => ownA s (curF bs) k 0 p)) := Lib.hid ⟨HMk.out.keep bwv, HAk.out.keep bwv HAk.out.lt, HRk.out.keep bwv, how⟩
      have HWV := Lib.hid (below_then HW.out bwv)
      have hwg : w4.heap.size ≤ wr.heap.size := hsz
      obtain ⟨gw, hgw⟩ : ∃ gw, gw = wr.heap.size := ⟨_, rfl⟩
      rw [← hgw] at HSM hwg
      have HGW := Lib.hid hgw
      have HNE : Hid (X ≠ gw ∧ g ≠ gw ∧ w.heap.size ≤ gw ∧ (∀ a, px = some a → a.block ≠ gw)) := Lib.hid ⟨by have := HGL.out; omega, by have := HGL.out; omega, by have := HWX.out; have := HGL.out; omega, fun a ha => by have := HXB.out a ha; omega⟩
      have k3 : wv.cell? ⟨X, 3, none⟩ = some (.slice a4 n4 c4) := HSM.out.lw.k3
      have hlX2 : X < wr.heap.size := by have := HGL.out; omega
      have HWVQ := Lib.hid hwv
      clear hwv bwv how HMk HAk HRk hsz hgw HW
      go_upto_region 12 with (fail)
      rw [← HWVQ.out, ← HGW.out]
      clear hlX2
      go_wp2_with fail
      clear k3
      go_loopg [11, 12, 13, 42] n4 (fun g2 v11 v12 v13 v42 wi => ∃ i : Nat, v42 = .int .i64 i ∧ i ≤ n4 ∧ n4 - i ≤ g2 ∧ Hid (SmI w wi X a1 n1 c1 a2 n2 c2 a3 n3 c3 a4 n4 c4 a5 n5 c5 s g (curF bs) px L gw (fun p => ownA s (curF bs) k i p)) ∧ Hid (Below w4.heap.size w4 wi))
      case atStart => exact ⟨0, by go_num, by omega, by omega, HSM, HWV⟩
      case round =>
        obtain ⟨i, rfl, hi, hg2, HSi, HWi⟩ := hrel
        clear HSM HWV
        by_cases hli : i < n4
        · have hliz : (i : Int) < (n4 : Int) := by omega
          have hi4 : i < s.chgs.length := by rw [HL4.out]; exact hli
          obtain ⟨b, off, cg, hA4, hbl, hgx, d0, d1, d2, d3, d4, d5, d6, d7⟩ := rdChg_at HSi.out.lw.rs.r4 hi4
          obtain ⟨p1, p2, p3⟩ := HOK.out.place hgx
          have hph : phOf s i = cg.ph := by unfold phOf; rw [hgx]; rfl
          have hphb : 1 ≤ cg.ph ∧ cg.ph ≤ 7 := by
            have h1 := HOK.out.chg cg (List.mem_of_getElem? hgx)
            unfold okChg at h1
            simp only [decide_eq_true_eq] at h1
            exact h1.2.2.1
          have HPH := Lib.hid (And.intro hph hphb)
          have HPL := Lib.hid p3
          subst hA4
          obtain ⟨wb, hwb⟩ : ∃ wb, wb = wr.alloc (.cells #[.string cg.name, .int .i64 cg.place, .int .i64 cg.ph, .int .i64 cg.mn, .int .i64 cg.mx, .int .i64 cg.step, .int .i64 cg.fb, .int .i64 cg.own] 42) := ⟨_, rfl⟩
          have bwb : Below wr.heap.size wr wb := by rw [hwb]; exact (Below.refl _ wr).alloc (Nat.le_refl _) _
          have x1 : wb.cell? ⟨wr.heap.size, 1, none⟩ = some (.int .i64 ((placeOf s i : Nat) : Int)) := by rw [hwb, p3]; go_simp
          have x2 : wb.cell? ⟨wr.heap.size, 2, none⟩ = some (.int .i64 cg.ph) := by rw [hwb]; go_simp
          have lxb : wr.heap.size < wb.heap.size := by rw [hwb]; simp
          have lgw : gw < wr.heap.size := HSi.out.ow.lt
          have HSb := Lib.hid (HSi.out.keep bwb)
          have HWb := Lib.hid (below_then HWi.out bwb)
          have HWBQ := Lib.hid hwb
          have HSTEP : Hid (∀ p, ownA s (curF bs) k (i + 1) p = ownA s (curF bs) k i p + pick (placeOf s i = k ∧ bitP cg.ph p = true) (curF bs i)) := Lib.hid (fun p => by rw [HAS.out, hph])
          have HABi := Lib.hid (fun p => HAB.out k i p)
          have hfi := HCB.out i
          clear hgx p1 p2 p3 hph bwb hwb HWi
          go_upto_region 15 with (fail)
          rw [← HWBQ.out]
          clear d0 d1 d2 d3 d4 d5 d6 d7
          obtain ⟨bx, hbx⟩ : ∃ bx, bx = wr.heap.size := ⟨_, rfl⟩
          rw [← hbx] at x1 x2 lxb lgw ⊢
          clear hbx HWBQ HSi
          go_wp2_with fail
          go_loopg [13, 47] 3 (fun g3 v13 v47 wp => ∃ p : Nat, v47 = .int .i64 p ∧ p ≤ 3 ∧ 3 - p ≤ g3 ∧ Hid (SmI w wp X a1 n1 c1 a2 n2 c2 a3 n3 c3 (some ⟨b, off, none⟩) n4 c4 a5 n5 c5 s g (curF bs) px L gw (midW (fun p => ownA s (curF bs) k i p) (fun p => ownA s (curF bs) k (i + 1) p) p)) ∧ Hid (Below w4.heap.size w4 wp) ∧ wp.cell? ⟨bx, 1, none⟩ = some (.int .i64 ((placeOf s i : Nat) : Int)) ∧ wp.cell? ⟨bx, 2, none⟩ = some (.int .i64 cg.ph))
          case atStart => exact ⟨0, by go_num, by omega, by omega, Lib.hid (HSb.out.fun (fun q _ => (midW_zero _ _ q).symm)), HWb, x1, x2⟩
          case round =>
            obtain ⟨p, rfl, hp, hg3, HSp, HWp, y1, y2⟩ := hrel
            clear HSb HWb x1 x2 lxb
            by_cases hlp : p < 3
            · have hlpz : (p : Int) < 3 := by omega
              have hbs := bit_shr (ph := cg.ph) (p := p) HPH.out.2 hlp
              have hst := HSTEP.out p
              have cw := HSp.out.ow.cell (i := p) hlp
              rw [midW_at] at cw
              have fw := HSp.out.ow.frozen p
              have lw := HSp.out.ow.lt
              have ca := HSp.out.og.cell (i := i) hli
              have hai := HABi.out p
              have lb1 := World.block_lt_of_cell? wr _ y1
              dsimp only at lb1
              have HWR := Lib.hid (fun u => (Mod.refl (fun j => j = gw) wr).setCell (p := ⟨gw, p, none⟩) (.inl rfl) u)
              have HOW := Lib.hid (fun u => HSp.out.ow.set p u)
              have HLW := Lib.hid (fun u => HWp.out.setCell (p := ⟨gw, p, none⟩) hwg u)
              by_cases hpk : placeOf s i = k
              · have hpkz : ((placeOf s i : Nat) : Int) = (k : Int) := by omega
                cases hbit : bitP cg.ph p
                · rw [hbit] at hbs hst
                  rw [pick_neg (by simp), Int.add_zero] at hst
                  have HS2 : Hid (SmI w wr X a1 n1 c1 a2 n2 c2 a3 n3 c3 (some ⟨b, off, none⟩) n4 c4 a5 n5 c5 s g (curF bs) px L gw (midW (fun p => ownA s (curF bs) k i p) (fun p => ownA s (curF bs) k (i + 1) p) (p + 1))) := Lib.hid (HSp.out.fun (fun q _ => by
                    rw [midW_step]
                    by_cases e : q = p
                    · rw [if_pos e, e, midW_at]; exact hst.symm
                    · rw [if_neg e]))
                  clear HSp HWR HOW HLW hst cw ca
                  go_wp2_with fail
                  go_roundg (3 - (p + 1))
                  case measure => omega
                  case rel => exact ⟨p + 1, by go_num, by omega, by omega, HS2, HWp, y1, y2⟩
                · rw [hbit] at hbs hst
                  rw [pick_pos ⟨hpk, rfl⟩] at hst
                  have HST := Lib.hid hst
                  clear hst hbit
                  generalize hva : ownA s (curF bs) k i p = va at *
                  generalize hvf : curF bs i = vf at *
                  have HVA := Lib.hid hva
                  clear hva hvf
                  have hsum : IntKind.i64.wrap (va + vf) = va + vf := IntWalk.i64_in _ (by omega)
                  go_wp2_with fail
                  go_still_tail 9, (by kernel_rfl)
                  change wpList _ _ _ _ _ wr.drew
                  go_wp2_with fail
                  have hmd : Mod (fun j => j = gw) wr (wr.setCell ⟨gw, p, none⟩ (.int .i64 (va + vf))).drew := (HWR.out _).drew
                  have HS2 : Hid (SmI w (wr.setCell ⟨gw, p, none⟩ (.int .i64 (va + vf))).drew X a1 n1 c1 a2 n2 c2 a3 n3 c3 (some ⟨b, off, none⟩) n4 c4 a5 n5 c5 s g (curF bs) px L gw (midW (fun p => ownA s (curF bs) k i p) (fun p => ownA s (curF bs) k (i + 1) p) (p + 1))) := Lib.hid (HSp.out.write HS.out hmd (Own.congr (Own.drew (HOW.out (.int .i64 (va + vf)))) (fun q _ => by
                    rw [midW_step]
                    by_cases e : q = p
                    · rw [if_pos e, if_pos e, HST.out]
                    · rw [if_neg e, if_neg e])) HNE.out.1 HNE.out.2.1 HNE.out.2.2.1 HNE.out.2.2.2)
                  have z1 := (hmd.cell (p := ⟨bx, 1, none⟩) lb1 (by dsimp only; omega)).trans y1
                  have z2 := (hmd.cell (p := ⟨bx, 2, none⟩) lb1 (by dsimp only; omega)).trans y2
                  have HWN := Lib.hid ((HLW.out (.int .i64 (va + vf))).drew)
                  go_roundg (3 - (p + 1))
                  case measure => omega
                  case rel => exact ⟨p + 1, by go_num, by omega, by omega, HS2, HWN, z1, z2⟩
              · have hpkz : ¬ ((placeOf s i : Nat) : Int) = (k : Int) := by omega
                rw [pick_neg (fun h => hpk h.1), Int.add_zero] at hst
                have HS2 : Hid (SmI w wr X a1 n1 c1 a2 n2 c2 a3 n3 c3 (some ⟨b, off, none⟩) n4 c4 a5 n5 c5 s g (curF bs) px L gw (midW (fun p => ownA s (curF bs) k i p) (fun p => ownA s (curF bs) k (i + 1) p) (p + 1))) := Lib.hid (HSp.out.fun (fun q _ => by
                  rw [midW_step]
                  by_cases e : q = p
                  · rw [if_pos e, e, midW_at]; exact hst.symm
                  · rw [if_neg e]))
                clear HSp HWR HOW HLW hst cw ca
                go_wp2_with fail
                go_roundg (3 - (p + 1))
                case measure => omega
                case rel => exact ⟨p + 1, by go_num, by omega, by omega, HS2, HWp, y1, y2⟩
            · have hlpz : ¬ (p : Int) < 3 := by omega
              have hp3 : p = 3 := by omega
              subst hp3
              have HS2 : Hid (SmI w wr X a1 n1 c1 a2 n2 c2 a3 n3 c3 (some ⟨b, off, none⟩) n4 c4 a5 n5 c5 s g (curF bs) px L gw (fun p => ownA s (curF bs) k (i + 1) p)) := Lib.hid (HSp.out.fun (fun q hq => midW_end _ _ hq))
              go_wp2_with fail
              go_roundg (n4 - (i + 1))
              case measure => omega
              case rel => exact ⟨i + 1, by go_num, by omega, by omega, HS2, HWp⟩
        · have hliz : ¬ (i : Int) < (n4 : Int) := by omega
          have hin : i = n4 := by omega
          subst hin
          have k0 := HSi.out.lw.k0
          go_wp2_with fail
          clear k0
          go_loopg [14, 15, 16, 76] n1 (fun g2 v14 v15 v16 v76 wi => ∃ j : Nat, v76 = .int .i64 j ∧ j ≤ n1 ∧ n1 - j ≤ g2 ∧ Hid (SmI w wi X a1 n1 c1 a2 n2 c2 a3 n3 c3 a4 i c4 a5 n5 c5 s g (curF bs) px L gw (fun p => ownA s (curF bs) k i p + fromB s L k j p)) ∧ Hid (Below w4.heap.size w4 wi))
          case atStart => exact ⟨0, by go_num, by omega, by omega, Lib.hid (HSi.out.fun (fun p _ => by show ownA s (curF bs) k i p = ownA s (curF bs) k i p + 0; omega)), HWi⟩
          case round =>
            obtain ⟨j, rfl, hj, hg2, HSj, HWj⟩ := hrel
            clear HSi HWi
            by_cases hlj : j < n1
            · have hljz : (j : Int) < (n1 : Int) := by omega
              have hj1 : j < s.cons.length := by rw [HL1.out]; exact hlj
              obtain ⟨b, off, cg, hA1, hbl, hgx, d0, d1, d2, d3, d4, d5, d6, d7, d8, d9, d10⟩ := rdCon_at HSj.out.lw.rs.r1 hj1
              have hup : upAt s.cons j = cg.up := by unfold upAt; rw [hgx]; rfl
              subst hA1
              obtain ⟨wb, hwb⟩ : ∃ wb, wb = wr.alloc (.cells #[.string cg.name, .int .i64 cg.up, .int .i64 cg.limit, .int .i64 cg.neutral, .int .i64 cg.rated, .int .i64 cg.heat, .int .i64 cg.amb, .int .i64 cg.most, .int .i64 cg.gain, .int .i64 cg.loss, .int .i64 cg.den] 48) := ⟨_, rfl⟩
              have bwb : Below wr.heap.size wr wb := by rw [hwb]; exact (Below.refl _ wr).alloc (Nat.le_refl _) _
              have x1 : wb.cell? ⟨wr.heap.size, 1, none⟩ = some (.int .i64 cg.up) := by rw [hwb]; go_simp
              have lxb : wr.heap.size < wb.heap.size := by rw [hwb]; simp
              have lgw : gw < wr.heap.size := HSj.out.ow.lt
              have HSb := Lib.hid (HSj.out.keep bwb)
              have HWb := Lib.hid (below_then HWj.out bwb)
              have HWBQ := Lib.hid hwb
              have HSTEP : Hid (∀ p, fromB s L k (j + 1) p = fromB s L k j p + pick (cg.up = (k : Int)) (L (j * 3 + p))) := Lib.hid (fun p => by rw [HFS.out, hup])
              have HABi := Lib.hid (fun p => HAB.out k i p)
              have HFBj := Lib.hid (fun p => HFB.out k j p)
              clear hgx hup bwb hwb HWj
              go_upto_region 25 with (fail)
              rw [← HWBQ.out]
              clear d0 d1 d2 d3 d4 d5 d6 d7 d8 d9 d10
              obtain ⟨bx, hbx⟩ : ∃ bx, bx = wr.heap.size := ⟨_, rfl⟩
              rw [← hbx] at x1 lxb lgw ⊢
              clear hbx HWBQ HSj
              go_wp2_with fail
              go_loopg [16, 81] 3 (fun g3 v16 v81 wp => ∃ p : Nat, v81 = .int .i64 p ∧ p ≤ 3 ∧ 3 - p ≤ g3 ∧ Hid (SmI w wp X (some ⟨b, off, none⟩) n1 c1 a2 n2 c2 a3 n3 c3 a4 i c4 a5 n5 c5 s g (curF bs) px L gw (midW (fun p => ownA s (curF bs) k i p + fromB s L k j p) (fun p => ownA s (curF bs) k i p + fromB s L k (j + 1) p) p)) ∧ Hid (Below w4.heap.size w4 wp) ∧ wp.cell? ⟨bx, 1, none⟩ = some (.int .i64 cg.up))
              case atStart => exact ⟨0, by go_num, by omega, by omega, Lib.hid (HSb.out.fun (fun q _ => (midW_zero (fun p => ownA s (curF bs) k i p + fromB s L k j p) (fun p => ownA s (curF bs) k i p + fromB s L k (j + 1) p) q).symm)), HWb, x1⟩
              case round =>
                obtain ⟨p, rfl, hp, hg3, HSp, HWp, y1⟩ := hrel
                clear HSb HWb x1 lxb
                by_cases hlp : p < 3
                · have hlpz : (p : Int) < 3 := by omega
                  have hst := HSTEP.out p
                  have cw := HSp.out.ow.cell (i := p) hlp
                  rw [midW_at] at cw
                  have fw := HSp.out.ow.frozen p
                  have lw := HSp.out.ow.lt
                  obtain ⟨bl, ol, hAl, hbl2, cl⟩ := rd3_at HSp.out.rl hlj hlp
                  have hai := HABi.out p
                  have hfj := HFBj.out p
                  have hlb := HLB2.out (j * 3 + p)
                  have lb1 := World.block_lt_of_cell? wr _ y1
                  dsimp only at lb1
                  have HWR := Lib.hid (fun u => (Mod.refl (fun j => j = gw) wr).setCell (p := ⟨gw, p, none⟩) (.inl rfl) u)
                  have HOW := Lib.hid (fun u => HSp.out.ow.set p u)
                  have HLW := Lib.hid (fun u => HWp.out.setCell (p := ⟨gw, p, none⟩) hwg u)
                  by_cases hpk : cg.up = (k : Int)
                  · have hpe : (cg.up == (k : Int)) = true := by rw [beq_iff_eq]; exact hpk
                    rw [pick_pos hpk] at hst
                    have HST := Lib.hid hst
                    subst hAl
                    clear hst hpk
                    generalize hva : ownA s (curF bs) k i p = va at *
                    generalize hvb : fromB s L k j p = vb at *
                    generalize hvl : L (j * 3 + p) = vl at *
                    have HVA := Lib.hid hva
                    clear hva hvb hvl
                    have hfj1 : vb ≤ 100000 := by
                      have h1 := hfj.2
                      have h2 : (j : Int) * ((1280 : Nat) : Int) ≤ 16 * 1280 := Int.mul_le_mul_of_nonneg_right (by omega) (by omega)
                      omega
                    have hsum : IntKind.i64.wrap (va + vb + vl) = va + vb + vl := IntWalk.i64_in _ (by omega)
                    go_wp2_with fail
                    go_still_tail 11, (by kernel_rfl)
                    change wpList _ _ _ _ _ wr.drew
                    go_wp2_with fail
                    have hmd : Mod (fun j => j = gw) wr (wr.setCell ⟨gw, p, none⟩ (.int .i64 (va + vb + vl))).drew := (HWR.out _).drew
                    have HS2 : Hid (SmI w (wr.setCell ⟨gw, p, none⟩ (.int .i64 (va + vb + vl))).drew X (some ⟨b, off, none⟩) n1 c1 a2 n2 c2 a3 n3 c3 a4 i c4 a5 n5 c5 s g (curF bs) (some ⟨bl, ol, none⟩) L gw (midW (fun p => ownA s (curF bs) k i p + fromB s L k j p) (fun p => ownA s (curF bs) k i p + fromB s L k (j + 1) p) (p + 1))) := Lib.hid (HSp.out.write HS.out hmd (Own.congr (Own.drew (HOW.out (.int .i64 (va + vb + vl)))) (fun q _ => by
                      rw [midW_step]
                      by_cases e : q = p
                      · rw [if_pos e, if_pos e, HST.out, HVA.out, Int.add_assoc]
                      · rw [if_neg e, if_neg e])) HNE.out.1 HNE.out.2.1 HNE.out.2.2.1 HNE.out.2.2.2)
                    have z1 := (hmd.cell (p := ⟨bx, 1, none⟩) lb1 (by dsimp only; omega)).trans y1
                    have HWN := Lib.hid ((HLW.out (.int .i64 (va + vb + vl))).drew)
                    go_roundg (3 - (p + 1))
                    case measure => omega
                    case rel => exact ⟨p + 1, by go_num, by omega, by omega, HS2, HWN, z1⟩
                  · have hpe : (cg.up == (k : Int)) = false := by rw [beq_eq_false_iff_ne]; exact hpk
                    rw [pick_neg hpk, Int.add_zero] at hst
                    clear hpk
                    have HS2 : Hid (SmI w wr X (some ⟨b, off, none⟩) n1 c1 a2 n2 c2 a3 n3 c3 a4 i c4 a5 n5 c5 s g (curF bs) px L gw (midW (fun p => ownA s (curF bs) k i p + fromB s L k j p) (fun p => ownA s (curF bs) k i p + fromB s L k (j + 1) p) (p + 1))) := Lib.hid (HSp.out.fun (fun q _ => by
                      rw [midW_step]
                      by_cases e : q = p
                      · rw [if_pos e, e, midW_at, hst]
                      · rw [if_neg e]))
                    clear HSp HWR HOW HLW hst cw cl
                    go_wp2_with fail
                    go_roundg (3 - (p + 1))
                    case measure => omega
                    case rel => exact ⟨p + 1, by go_num, by omega, by omega, HS2, HWp, y1⟩
                · have hlpz : ¬ (p : Int) < 3 := by omega
                  have hp3 : p = 3 := by omega
                  subst hp3
                  have HS2 : Hid (SmI w wr X (some ⟨b, off, none⟩) n1 c1 a2 n2 c2 a3 n3 c3 a4 i c4 a5 n5 c5 s g (curF bs) px L gw (fun p => ownA s (curF bs) k i p + fromB s L k (j + 1) p)) := Lib.hid (HSp.out.fun (fun q hq => midW_end _ _ hq))
                  go_wp2_with fail
                  go_roundg (n1 - (j + 1))
                  case measure => omega
                  case rel => exact ⟨j + 1, by go_num, by omega, by omega, HS2, HWp⟩
            · have hljz : ¬ (j : Int) < (n1 : Int) := by omega
              have hjn : j = n1 := by omega
              subst hjn
              have HS9 := Lib.hid (HSj.out.fun (V' := fun p => L (k * 3 + p)) (fun p hp => (HLS.out k p hp).symm))
              obtain ⟨bl, ol, hAl, hbl2, l0⟩ := rd3_at HS9.out.rl hlk (p := 0) (by omega)
              obtain ⟨_, _, hAl1, _, l1⟩ := rd3_at HS9.out.rl hlk (p := 1) (by omega)
              obtain ⟨_, _, hAl2, _, l2⟩ := rd3_at HS9.out.rl hlk (p := 2) (by omega)
              rw [hAl] at hAl1 hAl2
              injection hAl1 with hAl1
              injection hAl1 with ea eb
              subst ea eb
              injection hAl2 with hAl2
              injection hAl2 with ea eb
              subst ea eb
              have o0 := HS9.out.ow.cell (i := 0) (by omega)
              have o1 := HS9.out.ow.cell (i := 1) (by omega)
              have o2 := HS9.out.ow.cell (i := 2) (by omega)
              rw [Nat.add_zero] at l0
              subst hAl
              have hq0 := fun W => eq_row3 (L (k * 3 + 0)) (L (k * 3 + 1)) (L (k * 3 + 2)) (L (k * 3 + 0)) (L (k * 3 + 1)) (L (k * 3 + 2)) W
              rw [show (L (k * 3 + 0) == L (k * 3 + 0) && (L (k * 3 + 1) == L (k * 3 + 1) && L (k * 3 + 2) == L (k * 3 + 2))) = true by simp] at hq0
              generalize L (k * 3 + 0) = y0 at *
              generalize L (k * 3 + 1) = y1 at *
              generalize L (k * 3 + 2) = y2 at *
              clear HSj
              go_wp2_with fail
              go_quiet (fail)
              go_wp2_with fail
              go_roundg (j - (k + 1))
              case measure => omega
              case rel => exact ⟨k + 1, by go_num, by omega, by omega, Lib.hid (below_drewG _ HWj.out)⟩
    · have hlkz : ¬ (k : Int) < (n1 : Int) := by omega
      go_wp2_with fail
      go_ret
      exact ⟨rfl, below_then HM.out.bel HW.out⟩
end Go.Proofs.Ytjlfnhfiiailgaa
