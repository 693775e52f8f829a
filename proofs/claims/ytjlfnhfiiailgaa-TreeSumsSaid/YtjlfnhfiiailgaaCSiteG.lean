/-
The reference's names, walked.
-/
import Derived.Test.YtjlfnhfiiailgaaCSiteG0
namespace Go.Proofs.Ytjlfnhfiiailgaa
open Go.RowKit
set_option linter.unusedVariables false
set_option linter.unusedSimpArgs false
noncomputable def okNamesB (keys : List (List UInt8)) (l : List ByteArray) : Bool := @decide (okNamesP keys l) (Classical.propDecidable _)
theorem okNamesB_iff {keys : List (List UInt8)} {l : List ByteArray} : okNamesB keys l = true ↔ okNamesP keys l := @decide_eq_true_iff _ (Classical.propDecidable _)
theorem okNamesB_yes {keys : List (List UInt8)} {l : List ByteArray} (h : okNamesP keys l) : true = okNamesB keys l := (okNamesB_iff.2 h).symm
theorem okNamesB_no {keys : List (List UInt8)} {l : List ByteArray} (h : ¬ okNamesP keys l) : false = okNamesB keys l := by
  cases e : okNamesB keys l
  · rfl
  · exact absurd (okNamesB_iff.1 e) h
set_option maxRecDepth 100000 in
set_option maxHeartbeats 16000000 in
theorem r4Names_any (a1 a2 a3 a4 a5 : Option Addr) (n1 c1 n2 c2 n3 c3 n4 c4 n5 c5 : Nat) (s : GSite) (w : World) (HS : Hid (RdSite w a1 a2 a3 a4 a5 n1 n2 n3 n4 n5 s)) (h1 : n1 ≤ 16) (h2 : n2 ≤ 8) (h3 : n3 ≤ 32) (h4 : n4 ≤ 16) (h5 : n5 ≤ 24) :
    Calls Try.prog 41 #[.agg #[.slice a1 n1 c1, .slice a2 n2 c2, .slice a3 n3 c3, .slice a4 n4 c4, .slice a5 n5 c5]] w fun e w' => e = .returned (.bool (okNamesB keyL (allNames s))) ∧ Below w.heap.size w w' := by
  obtain ⟨W0, hW0⟩ : ∃ W0, W0 = w.alloc (.cells #[.slice a1 n1 c1, .slice a2 n2 c2, .slice a3 n3 c3, .slice a4 n4 c4, .slice a5 n5 c5] 28) := ⟨_, rfl⟩
  have b0 : Below w.heap.size w W0 := by rw [hW0]; exact (Below.refl _ w).alloc (Nat.le_refl _) _
  have hs0 : w.heap.size < W0.heap.size := by rw [hW0]; simp
  have q0 : W0.cell? ⟨w.heap.size, 0, none⟩ = some (.slice a1 n1 c1) := by rw [hW0]; go_simp
  have q1 : W0.cell? ⟨w.heap.size, 1, none⟩ = some (.slice a2 n2 c2) := by rw [hW0]; go_simp
  have q2 : W0.cell? ⟨w.heap.size, 2, none⟩ = some (.slice a3 n3 c3) := by rw [hW0]; go_simp
  have q3 : W0.cell? ⟨w.heap.size, 3, none⟩ = some (.slice a4 n4 c4) := by rw [hW0]; go_simp
  have q4 : W0.cell? ⟨w.heap.size, 4, none⟩ = some (.slice a5 n5 c5) := by rw [hW0]; go_simp
  have HW0 := Lib.hid hW0.symm
  have HB0 := Lib.hid b0
  have HSW := Lib.hid (HS.out.keep b0)
  have HL : Hid (s.cons.length = n1 ∧ s.owns.length = n2 ∧ s.ctrs.length = n3 ∧ s.chgs.length = n4 ∧ s.bays.length = n5) := Lib.hid ⟨HS.out.l1, HS.out.l2, HS.out.l3, HS.out.l4, HS.out.l5⟩
  have HSZ : Hid (∀ x, x ∈ allNames s → x.size ≤ maxLen) := Lib.hid HS.out.nm
  clear hW0 b0
  go_enter Try.func41, Try.ntmps41
  go_upto_region 1 with (fail)
  rw [HW0.out]
  go_wp2_with fail
  go_loopg [3, 4] n1 (fun g1 v3 v4 wr => ∃ k : Nat, v4 = .int .i64 k ∧ k ≤ n1 ∧ n1 - k ≤ g1 ∧ Hid (OwnT wr W0.heap.size v3 ([] ++ ((s.cons.map GCon.name)).take k)) ∧ Hid (Below W0.heap.size W0 wr))
  case atStart => exact ⟨0, by go_num, by omega, by omega, Lib.hid (by simpa using (OwnR.nil (t := 9) (sz := 1) (enc := encS) W0 W0.heap.size)), Lib.hid (Below.refl _ _)⟩
  case round =>
    obtain ⟨k, rfl, hk, hg1, HX, HB⟩ := hrel
    have p00 := (HB.out.cell (p := ⟨w.heap.size, 0, none⟩) hs0).trans q0
    by_cases hlt : k < n1
    · have hltz : (k : Int) < (n1 : Int) := by omega
      obtain ⟨b, off, c, hbe, hbl, hc, k0, k1, k2, k3, k4, k5, k6, k7, k8, k9, k10⟩ := rdCon_at (HSW.out.r1.keep HB.out) (k := k) (by rw [HSW.out.l1]; exact hlt)
      have hpl : ([] ++ ((s.cons.map GCon.name)).take k).length ≤ 1000 := by simp only [List.length_append, List.length_map, List.length_take, List.length_nil, HL.out.1, HL.out.2.1, HL.out.2.2.1, HL.out.2.2.2.1]; omega
      obtain ⟨ap, v', w5, av, aw, HO1, HA1⟩ := app_str c.name HX.out HB.out.size (by omega)
      have HX2 : Hid (OwnT w5 W0.heap.size v' ([] ++ ((s.cons.map GCon.name)).take (k + 1))) := Lib.hid (by
        have e : ((s.cons.map GCon.name)).take (k + 1) = ((s.cons.map GCon.name)).take k ++ [c.name] := take_snoc (by rw [List.getElem?_map, hc]; rfl)
        rw [e, ← List.append_assoc]
        exact HO1.out)
      have HB2 : Hid (Below W0.heap.size W0 w5) := Lib.hid (HB.out.trans HA1.out.bel)
      subst hbe
      clear hc HX HB HO1 HA1 hpl
      go_wp2_with fail
      go_roundg (n1 - (k + 1))
      case measure => omega
      case rel => exact ⟨k + 1, by go_num, by omega, by omega, HX2, HB2⟩
    · have hltz : ¬ (k : Int) < (n1 : Int) := by omega
      have HX1 : Hid (OwnT wr W0.heap.size u3 (s.cons.map GCon.name)) := Lib.hid (by
        have h := HX.out
        rw [List.take_of_length_le (by rw [List.length_map, HSW.out.l1]; omega)] at h
        simpa using h)
      have HB1 := HB
      clear HX HB hk hg1 hlt
      go_wp2_with fail
      go_loopg [3, 5] n2 (fun g1 v3 v5 wr => ∃ k : Nat, v5 = .int .i64 k ∧ k ≤ n2 ∧ n2 - k ≤ g1 ∧ Hid (OwnT wr W0.heap.size v3 (s.cons.map GCon.name ++ (s.owns).take k)) ∧ Hid (Below W0.heap.size W0 wr))
      case atStart => exact ⟨0, by go_num, by omega, by omega, Lib.hid (by simpa using HX1.out), HB1⟩
      case round =>
        clear HX1 HB1
        obtain ⟨k, rfl, hk, hg1, HX, HB⟩ := hrel
        have p01 := (HB.out.cell (p := ⟨w.heap.size, 1, none⟩) hs0).trans q1
        by_cases hlt : k < n2
        · have hltz : (k : Int) < (n2 : Int) := by omega
          obtain ⟨b, off, c, hbe, hbl, hc, k0⟩ := rdOwn_at (HSW.out.r2.keep HB.out) (k := k) (by rw [HSW.out.l2]; exact hlt)
          have hpl : (s.cons.map GCon.name ++ (s.owns).take k).length ≤ 1000 := by simp only [List.length_append, List.length_map, List.length_take, List.length_nil, HL.out.1, HL.out.2.1, HL.out.2.2.1, HL.out.2.2.2.1]; omega
          obtain ⟨ap, v', w5, av, aw, HO1, HA1⟩ := app_str c HX.out HB.out.size (by omega)
          have HX2 : Hid (OwnT w5 W0.heap.size v' (s.cons.map GCon.name ++ (s.owns).take (k + 1))) := Lib.hid (by
            have e : (s.owns).take (k + 1) = (s.owns).take k ++ [c] := take_snoc (by exact hc)
            rw [e, ← List.append_assoc]
            exact HO1.out)
          have HB2 : Hid (Below W0.heap.size W0 w5) := Lib.hid (HB.out.trans HA1.out.bel)
          subst hbe
          clear hc HX HB HO1 HA1 hpl
          go_wp2_with fail
          go_roundg (n2 - (k + 1))
          case measure => omega
          case rel => exact ⟨k + 1, by go_num, by omega, by omega, HX2, HB2⟩
        · have hltz : ¬ (k : Int) < (n2 : Int) := by omega
          have HX2 : Hid (OwnT wr W0.heap.size u3 (s.cons.map GCon.name ++ s.owns)) := Lib.hid (by
            have h := HX.out
            rw [List.take_of_length_le (by rw [HSW.out.l2]; omega)] at h
            exact h)
          have HB2 := HB
          clear HX HB hk hg1 hlt
          go_wp2_with fail
          go_loopg [3, 6] n3 (fun g1 v3 v6 wr => ∃ k : Nat, v6 = .int .i64 k ∧ k ≤ n3 ∧ n3 - k ≤ g1 ∧ Hid (OwnT wr W0.heap.size v3 (s.cons.map GCon.name ++ s.owns ++ ((s.ctrs.map GCtr.name)).take k)) ∧ Hid (Below W0.heap.size W0 wr))
          case atStart => exact ⟨0, by go_num, by omega, by omega, Lib.hid (by simpa using HX2.out), HB2⟩
          case round =>
            clear HX2 HB2
            obtain ⟨k, rfl, hk, hg1, HX, HB⟩ := hrel
            have p02 := (HB.out.cell (p := ⟨w.heap.size, 2, none⟩) hs0).trans q2
            by_cases hlt : k < n3
            · have hltz : (k : Int) < (n3 : Int) := by omega
              obtain ⟨b, off, c, hbe, hbl, hc, k0, k1, k2, k3⟩ := rdCtr_at (HSW.out.r3.keep HB.out) (k := k) (by rw [HSW.out.l3]; exact hlt)
              have hpl : (s.cons.map GCon.name ++ s.owns ++ ((s.ctrs.map GCtr.name)).take k).length ≤ 1000 := by simp only [List.length_append, List.length_map, List.length_take, List.length_nil, HL.out.1, HL.out.2.1, HL.out.2.2.1, HL.out.2.2.2.1]; omega
              obtain ⟨ap, v', w5, av, aw, HO1, HA1⟩ := app_str c.name HX.out HB.out.size (by omega)
              have HX2 : Hid (OwnT w5 W0.heap.size v' (s.cons.map GCon.name ++ s.owns ++ ((s.ctrs.map GCtr.name)).take (k + 1))) := Lib.hid (by
                have e : ((s.ctrs.map GCtr.name)).take (k + 1) = ((s.ctrs.map GCtr.name)).take k ++ [c.name] := take_snoc (by rw [List.getElem?_map, hc]; rfl)
                rw [e, ← List.append_assoc]
                exact HO1.out)
              have HB2 : Hid (Below W0.heap.size W0 w5) := Lib.hid (HB.out.trans HA1.out.bel)
              subst hbe
              clear hc HX HB HO1 HA1 hpl
              go_wp2_with fail
              go_roundg (n3 - (k + 1))
              case measure => omega
              case rel => exact ⟨k + 1, by go_num, by omega, by omega, HX2, HB2⟩
            · have hltz : ¬ (k : Int) < (n3 : Int) := by omega
              have HX3 : Hid (OwnT wr W0.heap.size u3 (s.cons.map GCon.name ++ s.owns ++ (s.ctrs.map GCtr.name))) := Lib.hid (by
                have h := HX.out
                rw [List.take_of_length_le (by rw [List.length_map, HSW.out.l3]; omega)] at h
                exact h)
              have HB3 := HB
              clear HX HB hk hg1 hlt
              go_wp2_with fail
              go_loopg [3, 7] n4 (fun g1 v3 v7 wr => ∃ k : Nat, v7 = .int .i64 k ∧ k ≤ n4 ∧ n4 - k ≤ g1 ∧ Hid (OwnT wr W0.heap.size v3 (s.cons.map GCon.name ++ s.owns ++ s.ctrs.map GCtr.name ++ ((s.chgs.map GChg.name)).take k)) ∧ Hid (Below W0.heap.size W0 wr))
              case atStart => exact ⟨0, by go_num, by omega, by omega, Lib.hid (by simpa using HX3.out), HB3⟩
              case round =>
                clear HX3 HB3
                obtain ⟨k, rfl, hk, hg1, HX, HB⟩ := hrel
                have p03 := (HB.out.cell (p := ⟨w.heap.size, 3, none⟩) hs0).trans q3
                by_cases hlt : k < n4
                · have hltz : (k : Int) < (n4 : Int) := by omega
                  obtain ⟨b, off, c, hbe, hbl, hc, k0, k1, k2, k3, k4, k5, k6, k7⟩ := rdChg_at (HSW.out.r4.keep HB.out) (k := k) (by rw [HSW.out.l4]; exact hlt)
                  have hpl : (s.cons.map GCon.name ++ s.owns ++ s.ctrs.map GCtr.name ++ ((s.chgs.map GChg.name)).take k).length ≤ 1000 := by simp only [List.length_append, List.length_map, List.length_take, List.length_nil, HL.out.1, HL.out.2.1, HL.out.2.2.1, HL.out.2.2.2.1]; omega
                  obtain ⟨ap, v', w5, av, aw, HO1, HA1⟩ := app_str c.name HX.out HB.out.size (by omega)
                  have HX2 : Hid (OwnT w5 W0.heap.size v' (s.cons.map GCon.name ++ s.owns ++ s.ctrs.map GCtr.name ++ ((s.chgs.map GChg.name)).take (k + 1))) := Lib.hid (by
                    have e : ((s.chgs.map GChg.name)).take (k + 1) = ((s.chgs.map GChg.name)).take k ++ [c.name] := take_snoc (by rw [List.getElem?_map, hc]; rfl)
                    rw [e, ← List.append_assoc]
                    exact HO1.out)
                  have HB2 : Hid (Below W0.heap.size W0 w5) := Lib.hid (HB.out.trans HA1.out.bel)
                  subst hbe
                  clear hc HX HB HO1 HA1 hpl
                  go_wp2_with fail
                  go_roundg (n4 - (k + 1))
                  case measure => omega
                  case rel => exact ⟨k + 1, by go_num, by omega, by omega, HX2, HB2⟩
                · have hltz : ¬ (k : Int) < (n4 : Int) := by omega
                  have HX4 : Hid (OwnT wr W0.heap.size u3 (s.cons.map GCon.name ++ s.owns ++ s.ctrs.map GCtr.name ++ (s.chgs.map GChg.name))) := Lib.hid (by
                    have h := HX.out
                    rw [List.take_of_length_le (by rw [List.length_map, HSW.out.l4]; omega)] at h
                    exact h)
                  have HB4 := HB
                  clear HX HB hk hg1 hlt
                  go_wp2_with fail
                  go_loopg [3, 8] n5 (fun g1 v3 v8 wr => ∃ k : Nat, v8 = .int .i64 k ∧ k ≤ n5 ∧ n5 - k ≤ g1 ∧ Hid (OwnT wr W0.heap.size v3 (s.cons.map GCon.name ++ s.owns ++ s.ctrs.map GCtr.name ++ s.chgs.map GChg.name ++ ((s.bays.map GBay.name)).take k)) ∧ Hid (Below W0.heap.size W0 wr))
                  case atStart => exact ⟨0, by go_num, by omega, by omega, Lib.hid (by simpa using HX4.out), HB4⟩
                  case round =>
                    clear HX4 HB4
                    obtain ⟨k, rfl, hk, hg1, HX, HB⟩ := hrel
                    have p04 := (HB.out.cell (p := ⟨w.heap.size, 4, none⟩) hs0).trans q4
                    by_cases hlt : k < n5
                    · have hltz : (k : Int) < (n5 : Int) := by omega
                      obtain ⟨b, off, c, hbe, hbl, hc, k0, k1⟩ := rdBay_at (HSW.out.r5.keep HB.out) (k := k) (by rw [HSW.out.l5]; exact hlt)
                      have hpl : (s.cons.map GCon.name ++ s.owns ++ s.ctrs.map GCtr.name ++ s.chgs.map GChg.name ++ ((s.bays.map GBay.name)).take k).length ≤ 1000 := by simp only [List.length_append, List.length_map, List.length_take, List.length_nil, HL.out.1, HL.out.2.1, HL.out.2.2.1, HL.out.2.2.2.1]; omega
                      obtain ⟨ap, v', w5, av, aw, HO1, HA1⟩ := app_str c.name HX.out HB.out.size (by omega)
                      have HX2 : Hid (OwnT w5 W0.heap.size v' (s.cons.map GCon.name ++ s.owns ++ s.ctrs.map GCtr.name ++ s.chgs.map GChg.name ++ ((s.bays.map GBay.name)).take (k + 1))) := Lib.hid (by
                        have e : ((s.bays.map GBay.name)).take (k + 1) = ((s.bays.map GBay.name)).take k ++ [c.name] := take_snoc (by rw [List.getElem?_map, hc]; rfl)
                        rw [e, ← List.append_assoc]
                        exact HO1.out)
                      have HB2 : Hid (Below W0.heap.size W0 w5) := Lib.hid (HB.out.trans HA1.out.bel)
                      subst hbe
                      clear hc HX HB HO1 HA1 hpl
                      go_wp2_with fail
                      go_roundg (n5 - (k + 1))
                      case measure => omega
                      case rel => exact ⟨k + 1, by go_num, by omega, by omega, HX2, HB2⟩
                    · have hltz : ¬ (k : Int) < (n5 : Int) := by omega
                      have HX5 : Hid (OwnT wr W0.heap.size u3 (s.cons.map GCon.name ++ s.owns ++ s.ctrs.map GCtr.name ++ s.chgs.map GChg.name ++ (s.bays.map GBay.name))) := Lib.hid (by
                        have h := HX.out
                        rw [List.take_of_length_le (by rw [List.length_map, HSW.out.l5]; omega)] at h
                        exact h)
                      have HB5 := HB
                      obtain ⟨a9, d9, e9, r9⟩ := HX5.out.rd encS_len
                      have e10 : (s.cons.map GCon.name ++ s.owns ++ s.ctrs.map GCtr.name ++ s.chgs.map GChg.name ++ s.bays.map GBay.name).length = n1 + n2 + n3 + n4 + n5 := by
                        simp only [List.length_append, List.length_map, HL.out.1, HL.out.2.1, HL.out.2.2.1, HL.out.2.2.2.1, HL.out.2.2.2.2]
                      rw [e10] at e9
                      obtain ⟨L, hL⟩ : ∃ L, L = n1 + n2 + n3 + n4 + n5 := ⟨_, rfl⟩
                      rw [← hL] at e9 e10
                      have hL96 : L ≤ 96 := by omega
                      have hLd : L ≤ d9 := by
                        have h := HX5.out
                        rw [e9] at h
                        exact h.len_le e10
                      have r9' : Rd 1 encS wr a9 (allNames s) := r9
                      have HR9 := Lib.hid r9'
                      have HLN : Hid ((allNames s).length = L) := Lib.hid e10
                      have HBW : Hid (Below w.heap.size w wr) := Lib.hid (below_then HB0.out HB.out)
                      subst e9
                      clear HX HX5 HB HB5 r9 r9' e10 hk hg1 hlt hL
                      go_wp2_with fail
                      have HBZ : Hid (Below wr.heap.size wr wr) := Lib.hid (Below.refl _ _)
                      obtain ⟨W1, hW1⟩ : ∃ W1, W1 = wr := ⟨_, rfl⟩
                      rw [← hW1] at HBZ HBW HR9
                      have HCK : Hid (W1 = wr) := Lib.hid hW1
                      clear hW1
                      go_loopg [9] L (fun g1 v9 wx => ∃ k : Nat, v9 = .int .i64 k ∧ k ≤ L ∧ L - k ≤ g1 ∧ Hid (okNamesP keyL ((allNames s).take k)) ∧ Hid (Below W1.heap.size W1 wx))
                      case atStart => exact ⟨0, by go_num, by omega, by omega, Lib.hid ⟨by simp, by simp⟩, Lib.hid (by rw [HCK.out]; exact Below.refl _ _)⟩
                      case round =>
                        clear HBZ HCK
                        obtain ⟨k, rfl, hk, hg1, HN, HB⟩ := hrel
                        by_cases hlt : k < L
                        · obtain ⟨b, off, x, hbe, hbl, hx, hxc⟩ := rdOwn_at (HR9.out.keep HB.out) (k := k) (by rw [HLN.out]; exact hlt)
                          have hltz : (k : Int) < (L : Int) := by omega
                          have HXK := Lib.hid hx
                          have HSX : Hid (x.size ≤ 9223372036854775807) := Lib.hid (by have := HSZ.out x (List.mem_of_getElem? hx); unfold maxLen at this; omega)
                          have HRX := HR9.out.keep HB.out
                          rw [hbe] at HRX
                          have HRX := Lib.hid (HRX.takeG k)
                          have HLK : Hid (((allNames s).take k).length = k) := Lib.hid (by rw [List.length_take, HLN.out]; omega)
                          have hkd : ¬ d9 < k := by omega
                          have HBA : Hid (Below w.heap.size w wr) := Lib.hid (below_then HBW.out HB.out)
                          subst hbe
                          clear hx
                          go_wp2_with fail
                          refine wp_normal (fun K hK => ?_)
                          refine nmReg_ok wr b off L d9 k (allNames s) x K hbl hxc HRX HLK hlt hltz hL96 hkd HSX _ _ _ _ _ _ _ _ _ _ _ _ _ _ _ _ _ _ _ _ _ _ _ _ _ _ _ _ _ _ _ _ _ _ _ _ _ _ _ _ _ _ _ _ _ _ _ _ _ _ _ _ _ _ _ _ _ _ _ _ _ _ _ _ _ _ _ _ _ _ _ _ _ _ _ _ _ _ _ _ _ _ _ _ _ _ _ _ _ _ _ _ _ _ _ _ _ _ _ _ _ _ _ _ _ _ _ _ _ _ ?_
                          refine Lib.hid ?_
                          intro w5 v96 v97 v98 v99 v100 v101 v102 v103 v104 v105 v106 v107 v108 v109 v110 hb5
                          refine hK _ _ ?_
                          have HB5 := Lib.hid (HB.out.trans (hb5.mono HB.out.size))
                          have HE := Lib.hid (below_then HBA.out hb5)
                          clear hK K hb5 HB HBA hxc HRX HLK hkd HSX
                          obtain ⟨z, hz⟩ : ∃ z, (!okNameB keyL x || inTs ((allNames s).take k) x) = z := ⟨_, rfl⟩
                          rw [hz]
                          have HZ := Lib.hid hz
                          clear hz
                          cases z
                          · have HN2 : Hid (okNamesP keyL ((allNames s).take (k + 1))) := Lib.hid (by
                              have h := HZ.out
                              rw [Bool.or_eq_false_iff, Bool.not_eq_false'] at h
                              rw [take_snoc HXK.out]
                              refine ⟨fun y hy => ?_, ?_⟩
                              · rcases List.mem_append.1 hy with h1 | h1
                                · exact HN.out.1 y h1
                                · rw [List.mem_singleton] at h1; rw [h1]; exact h.1
                              · rw [List.map_append, List.nodup_append]
                                refine ⟨HN.out.2, by simp, fun a ha b2 hb2 hab => ?_⟩
                                simp only [List.map_cons, List.map_nil, List.mem_singleton] at hb2
                                subst hab
                                rw [hb2] at ha
                                obtain ⟨y, hy, hyx⟩ := List.mem_map.1 ha
                                have := inTs_iff.2 ⟨y, hy, hyx⟩
                                rw [h.2] at this
                                cases this)
                            clear HN HZ
                            go_wp2_with fail
                            go_roundg (L - (k + 1))
                            case measure => omega
                            case rel => exact ⟨k + 1, by go_num, by omega, by omega, HN2, HB5⟩
                          · have HF : Hid (false = okNamesB keyL (allNames s)) := Lib.hid (okNamesB_no (fun h => by
                              have hz := HZ.out
                              rw [Bool.or_eq_true, Bool.not_eq_true'] at hz
                              rcases hz with hz | hz
                              · rw [h.1 x (List.mem_of_getElem? HXK.out)] at hz; cases hz
                              · obtain ⟨y, hy, hyx⟩ := inTs_iff.1 hz
                                obtain ⟨i, hi⟩ := List.mem_iff_getElem?.1 hy
                                have hik : i < k := by
                                  have := (List.getElem?_eq_some_iff.1 hi).1
                                  rw [List.length_take] at this; omega
                                rw [List.getElem?_take_of_lt hik] at hi
                                have h2 := h.2
                                have e1 : ((allNames s).map (·.toList))[i]? = some y.toList := by rw [List.getElem?_map, hi]; rfl
                                have e2 : ((allNames s).map (·.toList))[k]? = some y.toList := by rw [List.getElem?_map, HXK.out, hyx]; rfl
                                have l1 := (List.getElem?_eq_some_iff.1 e1)
                                have l2 := (List.getElem?_eq_some_iff.1 e2)
                                obtain ⟨l1, g1⟩ := l1
                                obtain ⟨l2, g2⟩ := l2
                                exact List.pairwise_iff_getElem.1 h2 i k l1 l2 hik (g1.trans g2.symm)))
                            clear HN HZ HB5
                            go_wp2_with fail
                            go_ret
                            exact ⟨ret_bool HF.out, HE.out⟩
                        · have hltz : ¬ (k : Int) < (L : Int) := by omega
                          have HF : Hid (true = okNamesB keyL (allNames s)) := Lib.hid (okNamesB_yes (by
                            have h := HN.out
                            rw [List.take_of_length_le (by rw [HLN.out]; omega)] at h
                            exact h))
                          have HBE : Hid (Below w.heap.size w wr) := Lib.hid (below_then HBW.out HB.out)
                          clear HN HB HBW hlt hk hg1
                          go_wp2_with fail
                          go_ret
                          exact ⟨ret_bool HF.out, HBE.out⟩
end Go.Proofs.Ytjlfnhfiiailgaa
