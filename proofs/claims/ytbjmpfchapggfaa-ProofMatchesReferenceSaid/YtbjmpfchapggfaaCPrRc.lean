/-
The reference's Check of proofs.
-/
import Derived.Test.YtbjmpfchapggfaaCPrRs
import Derived.Test.YtbjmpfchapggfaaGLPrV
import Derived.Test.YtbjmpfchapggfaaGLLimD
namespace Go.Proofs.Ytbjmpfchapggfaa
open Go.RowKit
set_option linter.unusedVariables false
set_option linter.unusedSimpArgs false
theorem okCo_c {s : GSite} {c : Nat} (h : okSB keyL s = true) (hc : c < s.cons.length) : limO s (c : Int) = limAt s c := by
  rw [limO_yes (okCo_yes h ⟨by omega, by omega⟩), Int.toNat_natCast]
theorem prB_R {s : GSite} {xs : List Int} {ps : List R3} (h1 : loadB s xs = true) (hk : OkSite keyL s) (hf : ∀ c, 0 ≤ fI xs c ∧ fI xs c ≤ 80) (h2 : ps.length = s.cons.length) : prB s xs ps = true ↔ okR s (fI xs) (F3 ps) := by
  rw [prB_iff, okR_iff hk hf]
  exact ⟨fun h => h.2.2, fun h => ⟨h1, h2, h⟩⟩
theorem fI_all {xs : List Int} (h : ∀ i, i < xs.length → 0 ≤ fI xs i ∧ fI xs i ≤ 80) (i : Nat) : 0 ≤ fI xs i ∧ fI xs i ≤ 80 := by
  rcases Nat.lt_or_ge i xs.length with h1 | h1
  · exact h i h1
  · unfold fI
    rw [List.getElem?_eq_none h1]
    exact ⟨Int.le_refl _, by decide⟩
set_option maxRecDepth 100000 in
set_option maxHeartbeats 16000000 in
theorem r10Check_any (a1 a2 a3 a4 a5 : Option Addr) (n1 c1 n2 c2 n3 c3 n4 c4 n5 c5 : Nat) (aA : Option Addr) (nA cA : Nat) (s : GSite) (xs : List Int) (aP : Option Addr) (nP cP : Nat) (ps : List R3) (w : World) (HS : Hid (RdSite w a1 a2 a3 a4 a5 n1 n2 n3 n4 n5 s)) (HX : Hid (Rd 1 encI w aA xs)) (HNA : Hid (xs.length = nA)) (hnA : nA ≤ 9223372036854775807) (HPS : Hid (Rd 3 enc3 w aP ps)) (HNP : Hid (ps.length = nP)) (hnP : nP ≤ 9223372036854775807) :
    Calls Try.prog 16 #[.agg #[.slice a1 n1 c1, .slice a2 n2 c2, .slice a3 n3 c3, .slice a4 n4 c4, .slice a5 n5 c5], .slice aA nA cA, .agg #[.slice aP nP cP]] w fun e w' => e = .returned (.bool (prB s xs ps)) ∧ Below w.heap.size w w' := by
  obtain ⟨m1, m2, m3, m4, m5⟩ : n1 ≤ 9223372036854775807 ∧ n2 ≤ 9223372036854775807 ∧ n3 ≤ 9223372036854775807 ∧ n4 ≤ 9223372036854775807 ∧ n5 ≤ 9223372036854775807 := ⟨HS.out.m1, HS.out.m2, HS.out.m3, HS.out.m4, HS.out.m5⟩
  obtain ⟨W0, hW0⟩ : ∃ W0, W0 = (w.alloc (.cells #[.slice a1 n1 c1, .slice a2 n2 c2, .slice a3 n3 c3, .slice a4 n4 c4, .slice a5 n5 c5] 28)).alloc (.cells #[.slice aP nP cP] 32) := ⟨_, rfl⟩
  have hm0 : LwM w W0 w.heap.size a1 n1 c1 a2 n2 c2 a3 n3 c3 a4 n4 c4 a5 n5 c5 s := by
    rw [hW0]
    exact (LwM.box (c1 := c1) (c2 := c2) (c3 := c3) (c4 := c4) (c5 := c5) HS.out).keep ((Below.refl _ _).alloc (Nat.le_refl _) _)
  have hkp : W0.cell? ⟨w.heap.size + 1, 0, none⟩ = some (.slice aP nP cP) := by rw [hW0]; go_simp
  have HW0 := Lib.hid hW0
  have HM := Lib.hid hm0
  have HKP := Lib.hid hkp
  clear hW0 hm0 hkp
  obtain ⟨k0, k1, k2, k3, k4⟩ : W0.cell? ⟨w.heap.size, 0, none⟩ = some (.slice a1 n1 c1) ∧ W0.cell? ⟨w.heap.size, 1, none⟩ = some (.slice a2 n2 c2) ∧ W0.cell? ⟨w.heap.size, 2, none⟩ = some (.slice a3 n3 c3) ∧ W0.cell? ⟨w.heap.size, 3, none⟩ = some (.slice a4 n4 c4) ∧ W0.cell? ⟨w.heap.size, 4, none⟩ = some (.slice a5 n5 c5) := ⟨HM.out.k0, HM.out.k1, HM.out.k2, HM.out.k3, HM.out.k4⟩
  go_enter Try.func16, Try.ntmps16
  go_wp2_with fail
  rw [← HW0.out]
  clear HW0
  obtain ⟨X, hX⟩ : ∃ X, X = w.heap.size := ⟨_, rfl⟩
  rw [← hX] at HM HKP k0 k1 k2 k3 k4 ⊢
  have HSZ : Hid (w.heap.size = X) := Lib.hid hX.symm
  clear hX
  go_wp2_with fail
  refine (r4Valid_any a1 a2 a3 a4 a5 n1 c1 n2 c2 n3 c3 n4 c4 n5 c5 s W0 (Lib.hid HM.out.rs)).mono ?_
  rintro e w1 ⟨rfl, hb⟩
  have HM := Lib.hid (HM.out.keep hb)
  have HKP := Lib.hid ((hb.cell (p := ⟨X + 1, 0, none⟩) (World.block_lt_of_cell? _ _ HKP.out)).trans HKP.out)
  clear k0 k1 k2 k3 k4 hb
  obtain ⟨k0, k1, k2, k3, k4⟩ : w1.cell? ⟨X, 0, none⟩ = some (.slice a1 n1 c1) ∧ w1.cell? ⟨X, 1, none⟩ = some (.slice a2 n2 c2) ∧ w1.cell? ⟨X, 2, none⟩ = some (.slice a3 n3 c3) ∧ w1.cell? ⟨X, 3, none⟩ = some (.slice a4 n4 c4) ∧ w1.cell? ⟨X, 4, none⟩ = some (.slice a5 n5 c5) := ⟨HM.out.k0, HM.out.k1, HM.out.k2, HM.out.k3, HM.out.k4⟩
  cases hok : okSB keyL s
  · have HN : Hid (false = prB s xs ps) := Lib.hid (prB_no (fun h => by have h1 := h.1; rw [loadB_no1 hok] at h1; cases h1)).symm
    go_wp2_with fail
    go_ret
    exact ⟨ret_bool HN.out, HM.out.bel⟩
  have HOKB := Lib.hid hok
  have HOK := Lib.hid (okSB_iff.1 hok)
  clear hok
  go_wp2_with fail
  refine (r8Currents_any a1 a2 a3 a4 a5 n1 c1 n2 c2 n3 c3 n4 c4 n5 c5 aA nA cA s xs w1 (Lib.hid HM.out.rs) (Lib.hid (HX.out.keep HM.out.bel)) HNA hnA).mono ?_
  rintro e w2 ⟨rfl, hb⟩
  have HM := Lib.hid (HM.out.keep hb)
  have HKP := Lib.hid ((hb.cell (p := ⟨X + 1, 0, none⟩) (World.block_lt_of_cell? _ _ HKP.out)).trans HKP.out)
  clear k0 k1 k2 k3 k4 hb
  obtain ⟨k0, k1, k2, k3, k4⟩ : w2.cell? ⟨X, 0, none⟩ = some (.slice a1 n1 c1) ∧ w2.cell? ⟨X, 1, none⟩ = some (.slice a2 n2 c2) ∧ w2.cell? ⟨X, 2, none⟩ = some (.slice a3 n3 c3) ∧ w2.cell? ⟨X, 3, none⟩ = some (.slice a4 n4 c4) ∧ w2.cell? ⟨X, 4, none⟩ = some (.slice a5 n5 c5) := ⟨HM.out.k0, HM.out.k1, HM.out.k2, HM.out.k3, HM.out.k4⟩
  cases hcu : curB s xs
  · have HN : Hid (false = prB s xs ps) := Lib.hid (prB_no (fun h => by have h1 := h.1; rw [loadB_no2 hcu] at h1; cases h1)).symm
    go_wp2_with fail
    go_ret
    exact ⟨ret_bool HN.out, HM.out.bel⟩
  have HCU := Lib.hid (curB_iff.1 hcu)
  have HLB : Hid (loadB s xs = true) := Lib.hid (loadB_yes HOKB.out hcu)
  have HF : Hid (∀ c, 0 ≤ fI xs c ∧ fI xs c ≤ 80) := Lib.hid (fun c => fI_all HCU.out.2 c)
  have hcl : s.cons.length = n1 := HS.out.l1
  have hn16 : n1 ≤ 16 := by have := HOK.out.n2; omega
  have hn1 : 0 < n1 := by have := HOK.out.n1; omega
  have hn416 : n4 ≤ 16 := by have h1 := HOK.out.n5; have h2 := HS.out.l4; omega
  have hnA4 : n4 = nA := by have h1 := HCU.out.1; have h2 := HNA.out; have h3 := HS.out.l4; omega
  have HCL := Lib.hid hcl
  have HL4 : Hid (s.chgs.length = n4) := Lib.hid HS.out.l4
  subst hnA4
  have kp := HKP.out
  clear hcl hcu
  by_cases hpn : nP = n1
  case neg =>
    have HN : Hid (false = prB s xs ps) := Lib.hid (prB_no (fun h => by have h1 := h.2.1; have h2 := HNP.out; have h3 := HCL.out; omega)).symm
    have z1 : ((nP : Int) == (n1 : Int)) = false := by simp; omega
    have z2 : ¬ (nP : Int) = (n1 : Int) := by omega
    have z3 : ((nP : Int) != (n1 : Int)) = true := by simp; omega
    go_wp2_with fail
    go_ret
    exact ⟨ret_bool HN.out, HM.out.bel⟩
  have hpn := hpn.symm
  subst hpn
  have z1 : ((n1 : Int) == (n1 : Int)) = true := by simp
  have z3 : ((n1 : Int) != (n1 : Int)) = false := by simp
  have HIFF : Hid (prB s xs ps = true ↔ okR s (fI xs) (F3 ps)) := Lib.hid (prB_R HLB.out HOK.out HF.out (by rw [HNP.out, HCL.out]))
  have HP : Hid (Rd 3 enc3 w aP ((List.range n1).map (row3 (F3 ps)))) := Lib.hid (by rw [← HNP.out, F3_row]; exact HPS.out)
  obtain ⟨F, hF⟩ : ∃ F, F = F3 ps := ⟨_, rfl⟩
  rw [← hF] at HIFF HP
  clear hF z1 z3 kp k0 k1 k2 k3 k4
  have z1 : ((n1 : Int) == (n1 : Int)) = true := by simp
  have z3 : ((n1 : Int) != (n1 : Int)) = false := by simp
  obtain ⟨k0, k1, k2, k3, k4⟩ : w2.cell? ⟨X, 0, none⟩ = some (.slice a1 n1 c1) ∧ w2.cell? ⟨X, 1, none⟩ = some (.slice a2 n2 c2) ∧ w2.cell? ⟨X, 2, none⟩ = some (.slice a3 n3 c3) ∧ w2.cell? ⟨X, 3, none⟩ = some (.slice a4 n4 c4) ∧ w2.cell? ⟨X, 4, none⟩ = some (.slice a5 n5 c5) := ⟨HM.out.k0, HM.out.k1, HM.out.k2, HM.out.k3, HM.out.k4⟩
  have kp := HKP.out
  go_wp2_with fail
  go_loopg [7] n1 (fun g1 v7 wr => ∃ c : Nat, v7 = .int .i64 c ∧ c ≤ n1 ∧ n1 - c ≤ g1 ∧ Hid (∀ d, d < c → ∀ p, p < 3 → refN s (fI xs) F d p s.cons.length ≤ F (d * 3 + p) ∧ F (d * 3 + p) ≤ limAt s d) ∧ Hid (LwM w wr X a1 n1 c1 a2 n2 c2 a3 n3 c3 a4 n4 c4 a5 n5 c5 s) ∧ Hid (wr.cell? ⟨X + 1, 0, none⟩ = some (.slice aP n1 cP)))
  case atStart => exact ⟨0, by go_num, by omega, by omega, Lib.hid (fun d hd => by omega), HM, HKP⟩
  case round =>
    clear k0 k1 k2 k3 k4 kp HM HKP
    obtain ⟨c, rfl, hc, hg1, HA, HM, HKP⟩ := hrel
    obtain ⟨k0, k1, k2, k3, k4⟩ : wr.cell? ⟨X, 0, none⟩ = some (.slice a1 n1 c1) ∧ wr.cell? ⟨X, 1, none⟩ = some (.slice a2 n2 c2) ∧ wr.cell? ⟨X, 2, none⟩ = some (.slice a3 n3 c3) ∧ wr.cell? ⟨X, 3, none⟩ = some (.slice a4 n4 c4) ∧ wr.cell? ⟨X, 4, none⟩ = some (.slice a5 n5 c5) := ⟨HM.out.k0, HM.out.k1, HM.out.k2, HM.out.k3, HM.out.k4⟩
    have kp := HKP.out
    by_cases hlt : c < n1
    · have hltz : (c : Int) < (n1 : Int) := by omega
      go_wp2_with fail
      refine (r9Limit_any a1 a2 a3 a4 a5 n1 c1 n2 c2 n3 c3 n4 c4 n5 c5 s (c : Int) wr (Lib.hid HM.out.rs)).mono ?_
      rintro e w3 ⟨rfl, hb⟩
      rw [okCo_c HOKB.out (by rw [HCL.out]; exact hlt)]
      generalize errO (okCo s (c : Int)) = ev
      obtain ⟨lim, hlim⟩ : ∃ lim, lim = limAt s c := ⟨_, rfl⟩
      rw [← hlim]
      have HLIM := Lib.hid hlim
      have HM := Lib.hid (HM.out.keep hb)
      have HKP := Lib.hid ((hb.cell (p := ⟨X + 1, 0, none⟩) (World.block_lt_of_cell? _ _ HKP.out)).trans HKP.out)
      clear k0 k1 k2 k3 k4 kp hb hlim
      go_wp2_with fail
      go_loopg [10] 3 (fun g2 v10 wr => ∃ p : Nat, v10 = .int .i64 p ∧ p ≤ 3 ∧ 3 - p ≤ g2 ∧ Hid (∀ q, q < p → refN s (fI xs) F c q s.cons.length ≤ F (c * 3 + q) ∧ F (c * 3 + q) ≤ limAt s c) ∧ Hid (LwM w wr X a1 n1 c1 a2 n2 c2 a3 n3 c3 a4 n4 c4 a5 n5 c5 s) ∧ Hid (wr.cell? ⟨X + 1, 0, none⟩ = some (.slice aP n1 cP)))
      case atStart => exact ⟨0, by go_num, by omega, by omega, Lib.hid (fun q hq => by omega), HM, HKP⟩
      case round =>
        clear HM HKP
        obtain ⟨p, rfl, hp, hg2, HA2, HM, HKP⟩ := hrel
        by_cases hlp : p < 3
        · have hlpz : (p : Int) < 3 := by omega
          go_wp2_with fail
          go_loopg [11, 12] n4 (fun g3 v11 v12 wr => ∃ i : Nat, v12 = .int .i64 i ∧ i ≤ n4 ∧ n4 - i ≤ g3 ∧ v11 = .int .i64 (ownA s (fI xs) c i p) ∧ Hid (LwM w wr X a1 n1 c1 a2 n2 c2 a3 n3 c3 a4 n4 c4 a5 n5 c5 s) ∧ Hid (wr.cell? ⟨X + 1, 0, none⟩ = some (.slice aP n1 cP)))
          case atStart => exact ⟨0, by go_num, by omega, by omega, rfl, HM, HKP⟩
          case round =>
            clear HM HKP
            obtain ⟨i, rfl, hi, hg3, rfl, HM, HKP⟩ := hrel
            by_cases hli : i < n4
            · have hliz : (i : Int) < (n4 : Int) := by omega
              obtain ⟨b, off, g, hA4, hbl, hgx, d0, d1, d2, d3, d4, d5, d6, d7⟩ := rdChg_at HM.out.rs.r4 (k := i) (by rw [HL4.out]; exact hli)
              obtain ⟨p1, p2, p3⟩ := HOK.out.place hgx
              have hch := HOK.out.chg g (List.mem_of_getElem? hgx)
              have HPH : Hid (1 ≤ g.ph ∧ g.ph ≤ 7) := Lib.hid (by
                unfold okChg at hch
                simp only [decide_eq_true_eq] at hch
                exact hch.2.2.1)
              have HPH : 1 ≤ g.ph ∧ g.ph ≤ 7 := HPH.out
              have HPH := Lib.hid HPH
              have HST : Hid (ownA s (fI xs) c (i + 1) p = ownA s (fI xs) c i p + pick (g.place = (c : Int) ∧ bitP g.ph p = true) (fI xs i)) := Lib.hid (by
                rw [ownA_succ]
                have e1 : phOf s i = g.ph := by unfold phOf; rw [hgx]; rfl
                rw [e1]
                by_cases h : g.place = (c : Int) ∧ bitP g.ph p = true
                · rw [pick_pos h, pick_pos ⟨by omega, h.2⟩]
                · rw [pick_neg h, pick_neg (fun x => h ⟨by omega, x.2⟩)])
              have HBD : Hid (0 ≤ ownA s (fI xs) c i p ∧ ownA s (fI xs) c i p ≤ i * 80) := Lib.hid (ownA_bdR HF.out c p i)
              have k3 := HM.out.k3
              clear p1 p2 p3 hch hgx
              subst hA4
              by_cases hpc : g.place = (c : Int)
              · rw [hpc] at d1 HST
                generalize hgp : g.place = gp at *
                clear hgp hpc
                go_wp2_with fail
                refine (r8Uses_any g.name (c : Nat) g.ph g.mn g.mx g.step g.fb g.own p hlp HPH.out _).mono ?_
                rintro e w4 ⟨rfl, hbw⟩
                clear d0 d1 d2 d3 d4 d5 d6 d7 k3
                have HM := Lib.hid (HM.out.keep hbw)
                have HKP := Lib.hid ((hbw.cell (p := ⟨X + 1, 0, none⟩) (World.block_lt_of_cell? _ _ HKP.out)).trans HKP.out)
                clear hbw
                by_cases hbit : bitP g.ph p = true
                · have hst : ownA s (fI xs) c (i + 1) p = ownA s (fI xs) c i p + fI xs i := by rw [HST.out, pick_pos (by first | exact ⟨rfl, hbit⟩ | exact ⟨trivial, hbit⟩)]
                  have hfi := HF.out i
                  have hbd := HBD.out
                  obtain ⟨ba, oa, hAA, hba, hax0⟩ := (HX.out.keep HM.out.bel).int (k := i) (by rw [HNA.out]; exact hli)
                  have hax : w4.cell? ⟨ba, oa + i, none⟩ = some (.int .i64 (fI xs i)) := hax0
                  clear hax0
                  rw [hbit]
                  subst hAA
                  have HST2 := Lib.hid hst.symm
                  clear hst hbit
                  generalize ownA s (fI xs) c i p = y at *
                  obtain ⟨x, hx⟩ : ∃ x, x = fI xs i := ⟨_, rfl⟩
                  rw [← hx] at hax hfi HST2
                  clear hx
                  have hsum : IntKind.i64.wrap (y + x) = y + x := IntWalk.i64_in _ (by omega)
                  go_wp2_with fail
                  go_roundg (n4 - (i + 1))
                  case measure => omega
                  case rel => exact ⟨i + 1, by go_num, by omega, by omega, by rw [HST2.out], HM, HKP⟩
                · have hst : ownA s (fI xs) c (i + 1) p = ownA s (fI xs) c i p := by rw [HST.out, pick_neg (fun x => hbit x.2), Int.add_zero]
                  have hbf : bitP g.ph p = false := by simpa using hbit
                  rw [hbf]
                  have HST2 := Lib.hid hst.symm
                  clear hst hbit hbf
                  go_wp2_with fail
                  go_roundg (n4 - (i + 1))
                  case measure => omega
                  case rel => exact ⟨i + 1, by go_num, by omega, by omega, by rw [HST2.out], HM, HKP⟩
              · have hst : ownA s (fI xs) c (i + 1) p = ownA s (fI xs) c i p := by rw [HST.out, pick_neg (fun x => hpc x.1), Int.add_zero]
                have HST2 := Lib.hid hst.symm
                have hz : (g.place == (c : Int)) = false := by simpa using hpc
                clear hst
                go_wp2_with fail
                go_roundg (n4 - (i + 1))
                case measure => omega
                case rel => exact ⟨i + 1, by go_num, by omega, by omega, by rw [HST2.out], HM, HKP⟩
            · have hliz : ¬ (i : Int) < (n4 : Int) := by omega
              have hin : i = n4 := by omega
              have HBD : Hid (ownA s (fI xs) c i p = refN s (fI xs) F c p 0) := Lib.hid (by show _ = ownA s (fI xs) c s.chgs.length p; rw [HL4.out, hin])
              rw [HBD.out]
              clear HBD hin
              have k0 := HM.out.k0
              have k3 := HM.out.k3
              go_wp2_with fail
              go_loopg [11, 13] n1 (fun g4 v11 v13 wr => ∃ d : Nat, v13 = .int .i64 d ∧ d ≤ n1 ∧ n1 - d ≤ g4 ∧ v11 = .int .i64 (refN s (fI xs) F c p d) ∧ Hid (LwM w wr X a1 n1 c1 a2 n2 c2 a3 n3 c3 a4 n4 c4 a5 n5 c5 s) ∧ Hid (wr.cell? ⟨X + 1, 0, none⟩ = some (.slice aP n1 cP)))
              case atStart => exact ⟨0, by go_num, by omega, by omega, rfl, HM, HKP⟩
              case round =>
                clear HM HKP k0 k3
                obtain ⟨d, rfl, hd, hg4, rfl, HM, HKP⟩ := hrel
                have k0 := HM.out.k0
                have kp := HKP.out
                by_cases hld : d < n1
                · have hldz : (d : Int) < (n1 : Int) := by omega
                  obtain ⟨b, off, g, hA, hbl, hgx, d0, d1, d2, d3, d4, d5, d6, d7, d8, d9, d10⟩ := rdCon_at HM.out.rs.r1 (k := d) (by rw [HCL.out]; exact hld)
                  have hup : upAt s.cons d = g.up := by unfold upAt; rw [hgx]; rfl
                  have HST : Hid (refN s (fI xs) F c p (d + 1) = if upAt s.cons d = (c : Int) then IntKind.i64.wrap (refN s (fI xs) F c p d + min (F (d * 3 + p)) 100000) else refN s (fI xs) F c p d) := Lib.hid rfl
                  rw [hup] at HST
                  clear hup hgx d0 d2 d3 d4 d5 d6 d7 d8 d9 d10
                  subst hA
                  by_cases hpc : g.up = (c : Int)
                  · rw [if_pos hpc] at HST
                    rw [hpc] at d1
                    clear hpc
                    obtain ⟨bP, oP, hAP, hbP, hq⟩ := load_at (HP.out.keep HM.out.bel) hld hlp
                    subst hAP
                    have HST2 := Lib.hid HST.out.symm
                    generalize refN s (fI xs) F c p d = y at *
                    generalize F (d * 3 + p) = x at *
                    go_wp2_with fail
                    all_goals
                      go_roundg (n1 - (d + 1))
                      case measure => omega
                      case rel => exact ⟨d + 1, by go_num, by omega, by omega, by rw [← HST2.out]; first | (rw [show min x 100000 = 100000 by omega]; exact congrArg _ (IntWalk.i64_left _).symm) | (rw [show min x 100000 = x by omega]; exact congrArg _ (IntWalk.i64_left _).symm), HM, HKP⟩
                  · rw [if_neg hpc] at HST
                    have hz : (g.up == (c : Int)) = false := by simpa using hpc
                    go_wp2_with fail
                    go_roundg (n1 - (d + 1))
                    case measure => omega
                    case rel => exact ⟨d + 1, by go_num, by omega, by omega, by rw [HST.out], HM, HKP⟩
                · have hldz : ¬ (d : Int) < (n1 : Int) := by omega
                  have hdn : d = n1 := by omega
                  have HND : Hid (refN s (fI xs) F c p d = refN s (fI xs) F c p s.cons.length) := Lib.hid (by rw [HCL.out, hdn])
                  rw [HND.out]
                  clear HND hdn
                  obtain ⟨bP, oP, hAP, hbP, hq⟩ := load_at (HP.out.keep HM.out.bel) hlt hlp
                  subst hAP
                  obtain ⟨y, hy⟩ : ∃ y, y = refN s (fI xs) F c p s.cons.length := ⟨_, rfl⟩
                  obtain ⟨x, hx⟩ : ∃ x, x = F (c * 3 + p) := ⟨_, rfl⟩
                  rw [← hy]
                  rw [← hx] at hq
                  have HY := Lib.hid (And.intro hy (And.intro hx HLIM.out))
                  clear hy hx
                  by_cases ht1 : x < y
                  · have HN : Hid (false = prB s xs ps) := Lib.hid (by
                      symm
                      rw [Bool.eq_false_iff]
                      intro h
                      have h1 := (HIFF.out.1 h c (by rw [HCL.out]; exact hlt) p hlp).1
                      rw [← HY.out.1, ← HY.out.2.1] at h1
                      omega)
                    go_wp2_with fail
                    go_ret
                    exact ⟨ret_bool HN.out, HM.out.bel⟩
                  by_cases ht2 : lim < x
                  · have HN : Hid (false = prB s xs ps) := Lib.hid (by
                      symm
                      rw [Bool.eq_false_iff]
                      intro h
                      have h1 := (HIFF.out.1 h c (by rw [HCL.out]; exact hlt) p hlp).2
                      rw [← HY.out.2.2, ← HY.out.2.1] at h1
                      omega)
                    go_wp2_with fail
                    go_ret
                    exact ⟨ret_bool HN.out, HM.out.bel⟩
                  have HNX : Hid (∀ q, q < p + 1 → refN s (fI xs) F c q s.cons.length ≤ F (c * 3 + q) ∧ F (c * 3 + q) ≤ limAt s c) := Lib.hid (fun q hq => by
                    rcases Nat.lt_succ_iff_lt_or_eq.1 hq with h | h
                    · exact HA2.out q h
                    · rw [h, ← HY.out.1, ← HY.out.2.1, ← HY.out.2.2]; omega)
                  go_wp2_with fail
                  go_roundg (3 - (p + 1))
                  case measure => omega
                  case rel => exact ⟨p + 1, by go_num, by omega, by omega, HNX, HM, HKP⟩
        · have hlpz : ¬ (p : Int) < 3 := by omega
          have HNX : Hid (∀ d, d < c + 1 → ∀ p, p < 3 → refN s (fI xs) F d p s.cons.length ≤ F (d * 3 + p) ∧ F (d * 3 + p) ≤ limAt s d) := Lib.hid (fun d hd q hq => by
            rcases Nat.lt_succ_iff_lt_or_eq.1 hd with h | h
            · exact HA.out d h q hq
            · rw [h]; exact HA2.out q (by omega))
          go_wp2_with fail
          go_roundg (n1 - (c + 1))
          case measure => omega
          case rel => exact ⟨c + 1, by go_num, by omega, by omega, HNX, HM, HKP⟩
    · have hltz : ¬ (c : Int) < (n1 : Int) := by omega
      have HN : Hid (true = prB s xs ps) := Lib.hid (HIFF.out.2 (fun d hd p hp => HA.out d (by rw [HCL.out] at hd; omega) p hp)).symm
      go_wp2_with fail
      go_ret
      exact ⟨ret_bool HN.out, HM.out.bel⟩
end Go.Proofs.Ytbjmpfchapggfaa
