/-
site.namesOf, walked.
-/
import Derived.Test.YtjlfnhfiiailgaaCSiteRd
namespace Go.Proofs.Ytjlfnhfiiailgaa
open Go.RowKit
set_option linter.unusedVariables false
set_option linter.unusedSimpArgs false
def NamesPost (w : World) (s : GSite) (L : Nat) (e : Ending) (w' : World) : Prop := ∃ a c, e = .returned (.slice a L c) ∧ Rd 1 encS w' a (allNames s) ∧ Below w.heap.size w w'
set_option maxRecDepth 100000 in
set_option maxHeartbeats 8000000 in
theorem stNames_any (a1 a2 a3 a4 a5 : Option Addr) (n1 c1 n2 c2 n3 c3 n4 c4 n5 c5 : Nat) (s : GSite) (w : World) (HS : Hid (RdSite w a1 a2 a3 a4 a5 n1 n2 n3 n4 n5 s)) (h1 : n1 ≤ 16) (h2 : n2 ≤ 8) (h3 : n3 ≤ 32) (h4 : n4 ≤ 16) (h5 : n5 ≤ 24) :
    Calls Try.prog 36 #[.agg #[.slice a1 n1 c1, .slice a2 n2 c2, .slice a3 n3 c3, .slice a4 n4 c4, .slice a5 n5 c5]] w (NamesPost w s (n1 + n2 + n3 + n4 + n5)) := by
  obtain ⟨W0, hW0⟩ : ∃ W0, W0 = w.alloc (.cells #[.slice a1 n1 c1, .slice a2 n2 c2, .slice a3 n3 c3, .slice a4 n4 c4, .slice a5 n5 c5] 28) := ⟨_, rfl⟩
  have b0 : Below w.heap.size w W0 := by rw [hW0]; exact (Below.refl _ w).alloc (Nat.le_refl _) _
  have hs0 : w.heap.size < W0.heap.size := by rw [hW0]; simp
  have q0 : W0.cell? ⟨w.heap.size, 0, none⟩ = some (.slice a1 n1 c1) := by rw [hW0]; go_simp
  have q1 : W0.cell? ⟨w.heap.size, 1, none⟩ = some (.slice a2 n2 c2) := by rw [hW0]; go_simp
  have q2 : W0.cell? ⟨w.heap.size, 2, none⟩ = some (.slice a3 n3 c3) := by rw [hW0]; go_simp
  have q3 : W0.cell? ⟨w.heap.size, 3, none⟩ = some (.slice a4 n4 c4) := by rw [hW0]; go_simp
  have q4 : W0.cell? ⟨w.heap.size, 4, none⟩ = some (.slice a5 n5 c5) := by rw [hW0]; go_simp
  have HW0 := Lib.hid hW0.symm
  have HB0 := Lib.hid b0
  have HSW := Lib.hid (HS.out.keep b0)
  have HL : Hid (s.cons.length = n1 ∧ s.owns.length = n2 ∧ s.ctrs.length = n3 ∧ s.chgs.length = n4 ∧ s.bays.length = n5) := Lib.hid ⟨HS.out.l1, HS.out.l2, HS.out.l3, HS.out.l4, HS.out.l5⟩
  clear hW0 b0
  go_enter Try.func36, Try.ntmps36
  go_upto_region 1 with (fail)
  rw [HW0.out]
  go_wp2_with fail
  go_loopg [3, 5, 17] n1 (fun g1 v3 v5 v17 wr => ∃ k : Nat, v17 = .int .i64 k ∧ k ≤ n1 ∧ n1 - k ≤ g1 ∧ Hid (OwnT wr W0.heap.size v3 ([] ++ ((s.cons.map GCon.name)).take k)) ∧ Hid (Below W0.heap.size W0 wr))
  case atStart => exact ⟨0, by go_num, by omega, by omega, Lib.hid (by simpa using (OwnR.nil (t := 9) (sz := 1) (enc := encS) W0 W0.heap.size)), Lib.hid (Below.refl _ _)⟩
  case round =>
    obtain ⟨k, rfl, hk, hg1, HX, HB⟩ := hrel
    by_cases hlt : k < n1
    · have hltz : (k : Int) < (n1 : Int) := by omega
      obtain ⟨b, off, c, hbe, hbl, hc, k0, k1, k2, k3, k4, k5, k6, k7, k8, k9, k10⟩ := rdCon_at (HSW.out.r1.keep HB.out) (k := k) (by rw [HSW.out.l1]; exact hlt)
      have al : Below wr.heap.size wr (wr.alloc (.cells #[.string c.name, .int .i64 c.up, .int .i64 c.limit, .int .i64 c.neutral, .int .i64 c.rated, .int .i64 c.heat, .int .i64 c.amb, .int .i64 c.most, .int .i64 c.gain, .int .i64 c.loss, .int .i64 c.den] 48)) := (Below.refl _ _).alloc (Nat.le_refl _) _
      have hsz := HB.out.size
      have hpl : ([] ++ ((s.cons.map GCon.name)).take k).length ≤ 1000 := by simp only [List.length_append, List.length_map, List.length_take, List.length_nil, HL.out.1, HL.out.2.1, HL.out.2.2.1, HL.out.2.2.2.1]; omega
      obtain ⟨ap, v', w5, av, aw, HO1, HA1⟩ := app_str c.name (HX.out.keep al) (Nat.le_trans hsz al.size) (by omega)
      rw [World.size_alloc] at ap av aw
      have HX2 : Hid (OwnT w5 W0.heap.size v' ([] ++ ((s.cons.map GCon.name)).take (k + 1))) := Lib.hid (by
        have e : ((s.cons.map GCon.name)).take (k + 1) = ((s.cons.map GCon.name)).take k ++ [c.name] := take_snoc (by rw [List.getElem?_map, hc]; rfl)
        rw [e, ← List.append_assoc]
        exact HO1.out)
      have HB2 : Hid (Below W0.heap.size W0 w5) := Lib.hid ((HB.out.trans (al.mono hsz)).trans HA1.out.bel)
      subst hbe
      clear hc HX HB HO1 HA1 al hpl
      go_wp2_with fail
      go_roundg (n1 - (k + 1))
      case measure => omega
      case rel => exact ⟨k + 1, by go_num, by omega, by omega, HX2, HB2⟩
    · have hltz : ¬ (k : Int) < (n1 : Int) := by omega
      have HX1 : Hid (OwnT wr W0.heap.size u3 (s.cons.map GCon.name)) := Lib.hid (by
        have h := HX.out
        rw [List.take_of_length_le (by rw [List.length_map, HSW.out.l1]; omega)] at h
        simpa using h)
      have HB1 := HB
      have p1 := (HB.out.cell (p := ⟨w.heap.size, 1, none⟩) hs0).trans q1
      clear HX HB hk hg1 hlt
      go_wp2_with fail
      go_loopg [3, 7, 30] n2 (fun g1 v3 v7 v30 wr => ∃ k : Nat, v30 = .int .i64 k ∧ k ≤ n2 ∧ n2 - k ≤ g1 ∧ Hid (OwnT wr W0.heap.size v3 (s.cons.map GCon.name ++ (s.owns).take k)) ∧ Hid (Below W0.heap.size W0 wr))
      case atStart => exact ⟨0, by go_num, by omega, by omega, Lib.hid (by simpa using HX1.out), HB1⟩
      case round =>
        clear HX1 HB1
        obtain ⟨k, rfl, hk, hg1, HX, HB⟩ := hrel
        by_cases hlt : k < n2
        · have hltz : (k : Int) < (n2 : Int) := by omega
          obtain ⟨b, off, c, hbe, hbl, hc, k0⟩ := rdOwn_at (HSW.out.r2.keep HB.out) (k := k) (by rw [HSW.out.l2]; exact hlt)
          have al : Below wr.heap.size wr (wr.alloc (.cells #[.string c] 62)) := (Below.refl _ _).alloc (Nat.le_refl _) _
          have hsz := HB.out.size
          have hpl : (s.cons.map GCon.name ++ (s.owns).take k).length ≤ 1000 := by simp only [List.length_append, List.length_map, List.length_take, List.length_nil, HL.out.1, HL.out.2.1, HL.out.2.2.1, HL.out.2.2.2.1]; omega
          obtain ⟨ap, v', w5, av, aw, HO1, HA1⟩ := app_str c (HX.out.keep al) (Nat.le_trans hsz al.size) (by omega)
          rw [World.size_alloc] at ap av aw
          have HX2 : Hid (OwnT w5 W0.heap.size v' (s.cons.map GCon.name ++ (s.owns).take (k + 1))) := Lib.hid (by
            have e : (s.owns).take (k + 1) = (s.owns).take k ++ [c] := take_snoc (by exact hc)
            rw [e, ← List.append_assoc]
            exact HO1.out)
          have HB2 : Hid (Below W0.heap.size W0 w5) := Lib.hid ((HB.out.trans (al.mono hsz)).trans HA1.out.bel)
          subst hbe
          clear hc HX HB HO1 HA1 al hpl
          go_wp2_with fail
          go_roundg (n2 - (k + 1))
          case measure => omega
          case rel => exact ⟨k + 1, by go_num, by omega, by omega, HX2, HB2⟩
        · have hltz : ¬ (k : Int) < (n2 : Int) := by omega
          have HX2 : Hid (OwnT wr W0.heap.size u3 (s.cons.map GCon.name ++ s.owns)) := Lib.hid (by
            have h := HX.out
            rw [List.take_of_length_le (by rw [HSW.out.l2]; omega)] at h
            exact h)
          have HB2 := HB
          have p2 := (HB.out.cell (p := ⟨w.heap.size, 2, none⟩) hs0).trans q2
          clear HX HB hk hg1 hlt
          go_wp2_with fail
          go_loopg [3, 9, 43] n3 (fun g1 v3 v9 v43 wr => ∃ k : Nat, v43 = .int .i64 k ∧ k ≤ n3 ∧ n3 - k ≤ g1 ∧ Hid (OwnT wr W0.heap.size v3 (s.cons.map GCon.name ++ s.owns ++ ((s.ctrs.map GCtr.name)).take k)) ∧ Hid (Below W0.heap.size W0 wr))
          case atStart => exact ⟨0, by go_num, by omega, by omega, Lib.hid (by simpa using HX2.out), HB2⟩
          case round =>
            clear HX2 HB2
            obtain ⟨k, rfl, hk, hg1, HX, HB⟩ := hrel
            by_cases hlt : k < n3
            · have hltz : (k : Int) < (n3 : Int) := by omega
              obtain ⟨b, off, c, hbe, hbl, hc, k0, k1, k2, k3⟩ := rdCtr_at (HSW.out.r3.keep HB.out) (k := k) (by rw [HSW.out.l3]; exact hlt)
              have al : Below wr.heap.size wr (wr.alloc (.cells #[.string c.name, .int .i64 c.own, .int .i64 c.rank, .int .i64 c.card] 83)) := (Below.refl _ _).alloc (Nat.le_refl _) _
              have hsz := HB.out.size
              have hpl : (s.cons.map GCon.name ++ s.owns ++ ((s.ctrs.map GCtr.name)).take k).length ≤ 1000 := by simp only [List.length_append, List.length_map, List.length_take, List.length_nil, HL.out.1, HL.out.2.1, HL.out.2.2.1, HL.out.2.2.2.1]; omega
              obtain ⟨ap, v', w5, av, aw, HO1, HA1⟩ := app_str c.name (HX.out.keep al) (Nat.le_trans hsz al.size) (by omega)
              rw [World.size_alloc] at ap av aw
              have HX2 : Hid (OwnT w5 W0.heap.size v' (s.cons.map GCon.name ++ s.owns ++ ((s.ctrs.map GCtr.name)).take (k + 1))) := Lib.hid (by
                have e : ((s.ctrs.map GCtr.name)).take (k + 1) = ((s.ctrs.map GCtr.name)).take k ++ [c.name] := take_snoc (by rw [List.getElem?_map, hc]; rfl)
                rw [e, ← List.append_assoc]
                exact HO1.out)
              have HB2 : Hid (Below W0.heap.size W0 w5) := Lib.hid ((HB.out.trans (al.mono hsz)).trans HA1.out.bel)
              subst hbe
              clear hc HX HB HO1 HA1 al hpl
              go_wp2_with fail
              go_roundg (n3 - (k + 1))
              case measure => omega
              case rel => exact ⟨k + 1, by go_num, by omega, by omega, HX2, HB2⟩
            · have hltz : ¬ (k : Int) < (n3 : Int) := by omega
              have HX3 : Hid (OwnT wr W0.heap.size u3 (s.cons.map GCon.name ++ s.owns ++ (s.ctrs.map GCtr.name))) := Lib.hid (by
                have h := HX.out
                rw [List.take_of_length_le (by rw [List.length_map, HSW.out.l3]; omega)] at h
                exact h)
              have HB3 := HB
              have p3 := (HB.out.cell (p := ⟨w.heap.size, 3, none⟩) hs0).trans q3
              clear HX HB hk hg1 hlt
              go_wp2_with fail
              go_loopg [3, 11, 56] n4 (fun g1 v3 v11 v56 wr => ∃ k : Nat, v56 = .int .i64 k ∧ k ≤ n4 ∧ n4 - k ≤ g1 ∧ Hid (OwnT wr W0.heap.size v3 (s.cons.map GCon.name ++ s.owns ++ s.ctrs.map GCtr.name ++ ((s.chgs.map GChg.name)).take k)) ∧ Hid (Below W0.heap.size W0 wr))
              case atStart => exact ⟨0, by go_num, by omega, by omega, Lib.hid (by simpa using HX3.out), HB3⟩
              case round =>
                clear HX3 HB3
                obtain ⟨k, rfl, hk, hg1, HX, HB⟩ := hrel
                by_cases hlt : k < n4
                · have hltz : (k : Int) < (n4 : Int) := by omega
                  obtain ⟨b, off, c, hbe, hbl, hc, k0, k1, k2, k3, k4, k5, k6, k7⟩ := rdChg_at (HSW.out.r4.keep HB.out) (k := k) (by rw [HSW.out.l4]; exact hlt)
                  have al : Below wr.heap.size wr (wr.alloc (.cells #[.string c.name, .int .i64 c.place, .int .i64 c.ph, .int .i64 c.mn, .int .i64 c.mx, .int .i64 c.step, .int .i64 c.fb, .int .i64 c.own] 42)) := (Below.refl _ _).alloc (Nat.le_refl _) _
                  have hsz := HB.out.size
                  have hpl : (s.cons.map GCon.name ++ s.owns ++ s.ctrs.map GCtr.name ++ ((s.chgs.map GChg.name)).take k).length ≤ 1000 := by simp only [List.length_append, List.length_map, List.length_take, List.length_nil, HL.out.1, HL.out.2.1, HL.out.2.2.1, HL.out.2.2.2.1]; omega
                  obtain ⟨ap, v', w5, av, aw, HO1, HA1⟩ := app_str c.name (HX.out.keep al) (Nat.le_trans hsz al.size) (by omega)
                  rw [World.size_alloc] at ap av aw
                  have HX2 : Hid (OwnT w5 W0.heap.size v' (s.cons.map GCon.name ++ s.owns ++ s.ctrs.map GCtr.name ++ ((s.chgs.map GChg.name)).take (k + 1))) := Lib.hid (by
                    have e : ((s.chgs.map GChg.name)).take (k + 1) = ((s.chgs.map GChg.name)).take k ++ [c.name] := take_snoc (by rw [List.getElem?_map, hc]; rfl)
                    rw [e, ← List.append_assoc]
                    exact HO1.out)
                  have HB2 : Hid (Below W0.heap.size W0 w5) := Lib.hid ((HB.out.trans (al.mono hsz)).trans HA1.out.bel)
                  subst hbe
                  clear hc HX HB HO1 HA1 al hpl
                  go_wp2_with fail
                  go_roundg (n4 - (k + 1))
                  case measure => omega
                  case rel => exact ⟨k + 1, by go_num, by omega, by omega, HX2, HB2⟩
                · have hltz : ¬ (k : Int) < (n4 : Int) := by omega
                  have HX4 : Hid (OwnT wr W0.heap.size u3 (s.cons.map GCon.name ++ s.owns ++ s.ctrs.map GCtr.name ++ (s.chgs.map GChg.name))) := Lib.hid (by
                    have h := HX.out
                    rw [List.take_of_length_le (by rw [List.length_map, HSW.out.l4]; omega)] at h
                    exact h)
                  have HB4 := HB
                  have p4 := (HB.out.cell (p := ⟨w.heap.size, 4, none⟩) hs0).trans q4
                  clear HX HB hk hg1 hlt
                  go_wp2_with fail
                  go_loopg [3, 13, 69] n5 (fun g1 v3 v13 v69 wr => ∃ k : Nat, v69 = .int .i64 k ∧ k ≤ n5 ∧ n5 - k ≤ g1 ∧ Hid (OwnT wr W0.heap.size v3 (s.cons.map GCon.name ++ s.owns ++ s.ctrs.map GCtr.name ++ s.chgs.map GChg.name ++ ((s.bays.map GBay.name)).take k)) ∧ Hid (Below W0.heap.size W0 wr))
                  case atStart => exact ⟨0, by go_num, by omega, by omega, Lib.hid (by simpa using HX4.out), HB4⟩
                  case round =>
                    clear HX4 HB4
                    obtain ⟨k, rfl, hk, hg1, HX, HB⟩ := hrel
                    by_cases hlt : k < n5
                    · have hltz : (k : Int) < (n5 : Int) := by omega
                      obtain ⟨b, off, c, hbe, hbl, hc, k0, k1⟩ := rdBay_at (HSW.out.r5.keep HB.out) (k := k) (by rw [HSW.out.l5]; exact hlt)
                      have al : Below wr.heap.size wr (wr.alloc (.cells #[.string c.name, .int .i64 c.chg] 85)) := (Below.refl _ _).alloc (Nat.le_refl _) _
                      have hsz := HB.out.size
                      have hpl : (s.cons.map GCon.name ++ s.owns ++ s.ctrs.map GCtr.name ++ s.chgs.map GChg.name ++ ((s.bays.map GBay.name)).take k).length ≤ 1000 := by simp only [List.length_append, List.length_map, List.length_take, List.length_nil, HL.out.1, HL.out.2.1, HL.out.2.2.1, HL.out.2.2.2.1]; omega
                      obtain ⟨ap, v', w5, av, aw, HO1, HA1⟩ := app_str c.name (HX.out.keep al) (Nat.le_trans hsz al.size) (by omega)
                      rw [World.size_alloc] at ap av aw
                      have HX2 : Hid (OwnT w5 W0.heap.size v' (s.cons.map GCon.name ++ s.owns ++ s.ctrs.map GCtr.name ++ s.chgs.map GChg.name ++ ((s.bays.map GBay.name)).take (k + 1))) := Lib.hid (by
                        have e : ((s.bays.map GBay.name)).take (k + 1) = ((s.bays.map GBay.name)).take k ++ [c.name] := take_snoc (by rw [List.getElem?_map, hc]; rfl)
                        rw [e, ← List.append_assoc]
                        exact HO1.out)
                      have HB2 : Hid (Below W0.heap.size W0 w5) := Lib.hid ((HB.out.trans (al.mono hsz)).trans HA1.out.bel)
                      subst hbe
                      clear hc HX HB HO1 HA1 al hpl
                      go_wp2_with fail
                      go_roundg (n5 - (k + 1))
                      case measure => omega
                      case rel => exact ⟨k + 1, by go_num, by omega, by omega, HX2, HB2⟩
                    · have hltz : ¬ (k : Int) < (n5 : Int) := by omega
                      have HX5 : Hid (OwnT wr W0.heap.size u3 (s.cons.map GCon.name ++ s.owns ++ s.ctrs.map GCtr.name ++ s.chgs.map GChg.name ++ (s.bays.map GBay.name))) := Lib.hid (by
                        have h := HX.out
                        rw [List.take_of_length_le (by rw [List.length_map, HSW.out.l5]; omega)] at h
                        exact h)
                      have HB5 := HB
                      obtain ⟨a9, d9, e9, r9⟩ := HX5.out.rd encS_len
                      have e10 : (s.cons.map GCon.name ++ s.owns ++ s.ctrs.map GCtr.name ++ s.chgs.map GChg.name ++ s.bays.map GBay.name).length = n1 + n2 + n3 + n4 + n5 := by
                        simp only [List.length_append, List.length_map, HL.out.1, HL.out.2.1, HL.out.2.2.1, HL.out.2.2.2.1, HL.out.2.2.2.2]
                      rw [e10] at e9
                      have HF : Hid (NamesPost w s (n1 + n2 + n3 + n4 + n5) (.returned u3) wr) := Lib.hid ⟨a9, d9, congrArg Ending.returned e9, r9, below_then HB0.out HB.out⟩
                      clear HX HX5 HB HB5 r9 e9 e10
                      go_wp2_with fail
                      go_ret
                      exact HF.out
end Go.Proofs.Ytjlfnhfiiailgaa
