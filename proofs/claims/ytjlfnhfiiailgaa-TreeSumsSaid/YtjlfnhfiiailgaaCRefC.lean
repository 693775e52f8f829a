/-
The reference: Path and Below.
-/
import Derived.Test.YtjlfnhfiiailgaaCRefB
namespace Go.Proofs.Ytjlfnhfiiailgaa
open Go.RowKit
set_option linter.unusedVariables false
set_option linter.unusedSimpArgs false
set_option maxRecDepth 100000 in
set_option maxHeartbeats 4000000 in
theorem r8Path_any (a1 a2 a3 a4 a5 : Option Addr) (n1 c1 n2 c2 n3 c3 n4 c4 n5 c5 : Nat) (s : GSite) (ch : Int) (w : World) (HS : Hid (RdSite w a1 a2 a3 a4 a5 n1 n2 n3 n4 n5 s)) :
    Calls Try.prog 13 #[.agg #[.slice a1 n1 c1, .slice a2 n2 c2, .slice a3 n3 c3, .slice a4 n4 c4, .slice a5 n5 c5], .int .i64 ch] w fun e w' => PaPost w s ch e w' := by
  obtain ⟨m1, m2, m3, m4, m5⟩ : n1 ≤ 9223372036854775807 ∧ n2 ≤ 9223372036854775807 ∧ n3 ≤ 9223372036854775807 ∧ n4 ≤ 9223372036854775807 ∧ n5 ≤ 9223372036854775807 := ⟨HS.out.m1, HS.out.m2, HS.out.m3, HS.out.m4, HS.out.m5⟩
  have hW0 : Below w.heap.size w (w.alloc (.cells #[.slice a1 n1 c1, .slice a2 n2 c2, .slice a3 n3 c3, .slice a4 n4 c4, .slice a5 n5 c5] 28)) := (Below.refl _ w).alloc (Nat.le_refl _) _
  have HV := Lib.hid (r4Valid_any a1 a2 a3 a4 a5 n1 c1 n2 c2 n3 c3 n4 c4 n5 c5 s (w.alloc (.cells #[.slice a1 n1 c1, .slice a2 n2 c2, .slice a3 n3 c3, .slice a4 n4 c4, .slice a5 n5 c5] 28)) (Lib.hid (HS.out.keep hW0)))
  go_enter Try.func13, Try.ntmps13
  go_wp2_with fail
  refine HV.out.mono ?_
  rintro e w1 ⟨rfl, hb1⟩
  have hb : Below w.heap.size w w1 := below_then hW0 hb1
  have hs1 : w.heap.size + 1 ≤ w1.heap.size := by have := hb1.size; rw [World.size_alloc] at this; exact this
  have q0 : w1.cell? ⟨w.heap.size, 0, none⟩ = some (.slice a1 n1 c1) := (hb1.cell (p := ⟨w.heap.size, 0, none⟩) (by simp)).trans (by go_simp)
  have q1 : w1.cell? ⟨w.heap.size, 1, none⟩ = some (.slice a2 n2 c2) := (hb1.cell (p := ⟨w.heap.size, 1, none⟩) (by simp)).trans (by go_simp)
  have q2 : w1.cell? ⟨w.heap.size, 2, none⟩ = some (.slice a3 n3 c3) := (hb1.cell (p := ⟨w.heap.size, 2, none⟩) (by simp)).trans (by go_simp)
  have q3 : w1.cell? ⟨w.heap.size, 3, none⟩ = some (.slice a4 n4 c4) := (hb1.cell (p := ⟨w.heap.size, 3, none⟩) (by simp)).trans (by go_simp)
  have q4 : w1.cell? ⟨w.heap.size, 4, none⟩ = some (.slice a5 n5 c5) := (hb1.cell (p := ⟨w.heap.size, 4, none⟩) (by simp)).trans (by go_simp)
  have HB := Lib.hid hb
  have HS1 := Lib.hid (HS.out.keep hb)
  have HR1 := Lib.hid HS.out.r1
  clear hb hb1 HV hW0 HS
  cases hok : okSB keyL s
  · have HN : Hid (okCh s ch = false) := Lib.hid (okCh_no1 hok)
    go_wp2_with fail
    refine bodyPost_ret (results_tmp2 rfl _ _ _) rfl ?_
    exact ⟨none, 0, by rw [HN.out, pathO_no HN.out]; rfl, by rw [pathO_no HN.out]; exact Rd.nil, HB.out⟩
  by_cases hlo : 0 ≤ ch
  case neg =>
    have HN : Hid (okCh s ch = false) := Lib.hid (okCh_no2 (fun h => hlo h.1))
    have hlt : ch < 0 := by omega
    clear hok hlo
    go_wp2_with fail
    refine bodyPost_ret (results_tmp2 rfl _ _ _) rfl ?_
    exact ⟨none, 0, by rw [HN.out, pathO_no HN.out]; rfl, by rw [pathO_no HN.out]; exact Rd.nil, HB.out⟩
  have hlt : ¬ ch < 0 := by omega
  by_cases hhi : ch < (n4 : Int)
  case neg =>
    have HN : Hid (okCh s ch = false) := Lib.hid (okCh_no2 (fun h => hhi (by rw [← HS1.out.l4]; exact h.2)))
    clear hok hlo
    go_wp2_with fail
    refine bodyPost_ret (results_tmp2 rfl _ _ _) rfl ?_
    exact ⟨none, 0, by rw [HN.out, pathO_no HN.out]; rfl, by rw [pathO_no HN.out]; exact Rd.nil, HB.out⟩
  have HY : Hid (okCh s ch = true) := Lib.hid (okCh_yes hok ⟨hlo, by rw [HS1.out.l4]; exact hhi⟩)
  have HOK := Lib.hid (okSB_iff.1 hok)
  obtain ⟨i, rfl⟩ := Int.eq_ofNat_of_zero_le hlo
  have hi : i < s.chgs.length := by rw [HS1.out.l4]; omega
  obtain ⟨b, off, g, hA, hbl, hgx, -, hpl, -⟩ := rdChg_at HS1.out.r4 hi
  obtain ⟨p1, p2, p3⟩ := HOK.out.place hgx
  have HP3 := Lib.hid p3
  have hpn : placeOf s i < s.cons.length := by omega
  have HA1 : Hid (∀ a, a1 = some a → a.block < w.heap.size) := Lib.hid (fun a ha => by
    obtain ⟨b', off', hA', hb', _⟩ := HR1.out (by have := HOK.out.n1; omega)
    rw [hA'] at ha
    cases ha
    exact hb')
  subst hA
  have hn16 : n1 ≤ 16 := by have := HOK.out.n2; have := HS1.out.l1; omega
  rw [← p3] at hpl
  clear hok hlo hgx p1 p2 p3
  go_wp2_with fail
  go_loopg [6, 7] (n1 + 1) (fun g1 v6 v7 wr => ∃ (c : Int) (l : List Int), v7 = .int .i64 c ∧ -1 ≤ c ∧ c < (n1 : Int) ∧ (c + 1).toNat ≤ g1 ∧ Hid (l ++ (pth s.cons c).map (fun (k : Nat) => (k : Int)) = pthI s.cons (placeOf s i)) ∧ Hid (OwnL wr w1.heap.size v6 l) ∧ Hid (Below w1.heap.size w1 wr))
  case atStart => exact ⟨((placeOf s i : Nat) : Int), [], rfl, by omega, by have := HS1.out.l1; omega, by have := HS1.out.l1; omega, Lib.hid rfl, Lib.hid (World.ownsRow_nil _ _ _ _), Lib.hid (Below.refl _ _)⟩
  case round =>
    obtain ⟨c, l, rfl, hlo, hhi, hg1, HP, HL, HW⟩ := hrel
    have hwr := HW.out.size
    have hs1b : w.heap.size < w1.heap.size := by omega
    have r0 := (HW.out.cell (p := ⟨w.heap.size, 0, none⟩) hs1b).trans q0
    by_cases hlt : 0 ≤ c
    · obtain ⟨k, rfl⟩ := Int.eq_ofNat_of_zero_le hlt
      have hk : k < s.cons.length := by rw [HS1.out.l1]; omega
      obtain ⟨b', off', g', hA1, hbl', hgx, -, hup, -⟩ := rdCon_at HS1.out.r1 hk
      have hup' := (HW.out.cell (p := ⟨b', off' + k * 11 + 1, none⟩) hbl').trans hup
      have hub : g'.up < k ∧ -1 ≤ g'.up := by
        have h := HOK.out.ups k hk
        have e : upAt s.cons k = g'.up := by unfold upAt; rw [hgx]; rfl
        rw [e] at h
        omega
      obtain ⟨hub1, hub2⟩ := hub
      have HG : Hid ((pth s.cons (k : Int)).map (fun (k : Nat) => (k : Int)) = (k : Int) :: (pth s.cons g'.up).map (fun (k : Nat) => (k : Int))) := Lib.hid (pthI_cons HOK.out.ups hk hgx)
      have hll : l.length ≤ 1000000 := by
        have h1 := congrArg List.length HP.out
        have h2 := pth_len HOK.out.ups (placeOf s i) hpn
        have h3 : (pthI s.cons (placeOf s i)).length = (pth s.cons (placeOf s i : Nat)).length := by unfold pthI; rw [List.length_map]
        rw [List.length_append, h3] at h1
        have := HS1.out.l1
        omega
      have HP2 : Hid ((l ++ [((k : Nat) : Int)]) ++ (pth s.cons g'.up).map (fun (k : Nat) => (k : Int)) = pthI s.cons (placeOf s i)) := Lib.hid (by
        rw [List.append_assoc, List.singleton_append, ← HG.out]
        exact HP.out)
      obtain ⟨ap, v', w4, ap1, ap2, ap3, ap4, ap5⟩ := app_int ((k : Nat) : Int) HL.out hwr hll
      have hbl4 : Below w1.heap.size wr w4 := OwnL.below HL.out ap4 hwr
      have HL2 := Lib.hid ap3
      have hW4 := HW.out.trans hbl4
      have HW4 := Lib.hid hW4
      obtain ⟨a', c', hv'⟩ := ap3.shape
      rw [show (l ++ [((k : Nat) : Int)]).length = l.length + 1 by simp] at hv'
      have t0 := (hW4.cell (p := ⟨w.heap.size, 0, none⟩) hs1b).trans q0
      have tup := (hW4.cell (p := ⟨b', off' + k * 11 + 1, none⟩) hbl').trans hup
      subst hA1
      clear hgx ap3 ap4 ap5 hbl4 hW4
      generalize hgu : g'.up = gu at *
      clear hgu
      subst hv'
      go_wp2_with fail
      go_roundg k
      case measure => omega
      case rel => exact ⟨gu, _, rfl, hub2, by omega, by omega, HP2, HL2, HW4⟩
    · have hcn : c < 0 := by omega
      have HE : Hid (l = pthI s.cons (placeOf s i)) := Lib.hid (by
        have := HP.out
        rw [pth_neg s.cons hcn, List.map_nil, List.append_nil] at this
        exact this)
      have HLR := Lib.hid HL.out.rd
      go_wp2_with fail
      refine bodyPost_ret (results_tmp2 rfl _ _ _) rfl ?_
      obtain ⟨a, c', hv, hr⟩ := HLR.out
      refine ⟨a, c', ?_, ?_, below_then HB.out HW.out⟩
      · rw [HY.out, pathO_yes HY.out, Int.toNat_natCast, ← HE.out, ← hv]
        rfl
      · rw [pathO_yes HY.out, Int.toNat_natCast, ← HE.out]
        exact hr
set_option maxRecDepth 100000 in
set_option maxHeartbeats 4000000 in
theorem r8Below_any (a1 a2 a3 a4 a5 : Option Addr) (n1 c1 n2 c2 n3 c3 n4 c4 n5 c5 : Nat) (s : GSite) (co : Int) (w : World) (HS : Hid (RdSite w a1 a2 a3 a4 a5 n1 n2 n3 n4 n5 s)) :
    Calls Try.prog 17 #[.agg #[.slice a1 n1 c1, .slice a2 n2 c2, .slice a3 n3 c3, .slice a4 n4 c4, .slice a5 n5 c5], .int .i64 co] w fun e w' => BePost w s co e w' := by
  obtain ⟨m1, m2, m3, m4, m5⟩ : n1 ≤ 9223372036854775807 ∧ n2 ≤ 9223372036854775807 ∧ n3 ≤ 9223372036854775807 ∧ n4 ≤ 9223372036854775807 ∧ n5 ≤ 9223372036854775807 := ⟨HS.out.m1, HS.out.m2, HS.out.m3, HS.out.m4, HS.out.m5⟩
  have hW0 : Below w.heap.size w (w.alloc (.cells #[.slice a1 n1 c1, .slice a2 n2 c2, .slice a3 n3 c3, .slice a4 n4 c4, .slice a5 n5 c5] 28)) := (Below.refl _ w).alloc (Nat.le_refl _) _
  have HV := Lib.hid (r4Valid_any a1 a2 a3 a4 a5 n1 c1 n2 c2 n3 c3 n4 c4 n5 c5 s (w.alloc (.cells #[.slice a1 n1 c1, .slice a2 n2 c2, .slice a3 n3 c3, .slice a4 n4 c4, .slice a5 n5 c5] 28)) (Lib.hid (HS.out.keep hW0)))
  go_enter Try.func17, Try.ntmps17
  go_wp2_with fail
  refine HV.out.mono ?_
  rintro e w1 ⟨rfl, hb1⟩
  have hb : Below w.heap.size w w1 := below_then hW0 hb1
  have hs1 : w.heap.size + 1 ≤ w1.heap.size := by have := hb1.size; rw [World.size_alloc] at this; exact this
  have q0 : w1.cell? ⟨w.heap.size, 0, none⟩ = some (.slice a1 n1 c1) := (hb1.cell (p := ⟨w.heap.size, 0, none⟩) (by simp)).trans (by go_simp)
  have q1 : w1.cell? ⟨w.heap.size, 1, none⟩ = some (.slice a2 n2 c2) := (hb1.cell (p := ⟨w.heap.size, 1, none⟩) (by simp)).trans (by go_simp)
  have q2 : w1.cell? ⟨w.heap.size, 2, none⟩ = some (.slice a3 n3 c3) := (hb1.cell (p := ⟨w.heap.size, 2, none⟩) (by simp)).trans (by go_simp)
  have q3 : w1.cell? ⟨w.heap.size, 3, none⟩ = some (.slice a4 n4 c4) := (hb1.cell (p := ⟨w.heap.size, 3, none⟩) (by simp)).trans (by go_simp)
  have q4 : w1.cell? ⟨w.heap.size, 4, none⟩ = some (.slice a5 n5 c5) := (hb1.cell (p := ⟨w.heap.size, 4, none⟩) (by simp)).trans (by go_simp)
  have HB := Lib.hid hb
  have HS1 := Lib.hid (HS.out.keep hb)
  have HR1 := Lib.hid HS.out.r1
  clear hb hb1 HV hW0 HS
  have hs1b : w.heap.size < w1.heap.size := by omega
  cases hok : okSB keyL s
  · have HN : Hid (okCo s co = false) := Lib.hid (okCo_no1 hok)
    go_wp2_with fail
    refine bodyPost_ret (results_tmp2 rfl _ _ _) rfl ?_
    exact ⟨none, 0, by rw [HN.out, belowO_no HN.out]; rfl, by rw [belowO_no HN.out]; exact Rd.nil, HB.out⟩
  by_cases hlo : 0 ≤ co
  case neg =>
    have HN : Hid (okCo s co = false) := Lib.hid (okCo_no2 (fun h => hlo h.1))
    have hlt : co < 0 := by omega
    clear hok hlo
    go_wp2_with fail
    refine bodyPost_ret (results_tmp2 rfl _ _ _) rfl ?_
    exact ⟨none, 0, by rw [HN.out, belowO_no HN.out]; rfl, by rw [belowO_no HN.out]; exact Rd.nil, HB.out⟩
  have hlt : ¬ co < 0 := by omega
  by_cases hhi : co < (n1 : Int)
  case neg =>
    have HN : Hid (okCo s co = false) := Lib.hid (okCo_no2 (fun h => hhi (by rw [← HS1.out.l1]; exact h.2)))
    clear hok hlo
    go_wp2_with fail
    refine bodyPost_ret (results_tmp2 rfl _ _ _) rfl ?_
    exact ⟨none, 0, by rw [HN.out, belowO_no HN.out]; rfl, by rw [belowO_no HN.out]; exact Rd.nil, HB.out⟩
  have HY : Hid (okCo s co = true) := Lib.hid (okCo_yes hok ⟨hlo, by rw [HS1.out.l1]; exact hhi⟩)
  have HOK := Lib.hid (okSB_iff.1 hok)
  have hn16 : n1 ≤ 16 := by have := HOK.out.n2; have := HS1.out.l1; omega
  have hn416 : n4 ≤ 16 := by have := HOK.out.n5; have := HS1.out.l4; omega
  clear hok
  go_wp2_with fail
  go_loopg [6, 7] n4 (fun g1 v6 v7 wr => ∃ k : Nat, v7 = .int .i64 k ∧ k ≤ n4 ∧ n4 - k ≤ g1 ∧ Hid (OwnL wr w1.heap.size v6 (belowL s co k)) ∧ Hid (Below w1.heap.size w1 wr))
  case atStart => exact ⟨0, by go_num, by omega, by omega, Lib.hid (World.ownsRow_nil _ _ _ _), Lib.hid (Below.refl _ _)⟩
  case round =>
    obtain ⟨k, rfl, hk, hg1, HL, HW⟩ := hrel
    have hwr := HW.out.size
    have r0 := (HW.out.cell (p := ⟨w.heap.size, 0, none⟩) hs1b).trans q0
    have r1 := (HW.out.cell (p := ⟨w.heap.size, 1, none⟩) hs1b).trans q1
    have r2 := (HW.out.cell (p := ⟨w.heap.size, 2, none⟩) hs1b).trans q2
    have r3 := (HW.out.cell (p := ⟨w.heap.size, 3, none⟩) hs1b).trans q3
    have r4 := (HW.out.cell (p := ⟨w.heap.size, 4, none⟩) hs1b).trans q4
    by_cases hlt2 : k < n4
    · have hltz : (k : Int) < (n4 : Int) := by omega
      have hk4 : k < s.chgs.length := by rw [HS1.out.l4]; exact hlt2
      obtain ⟨b, off, g, hA4, hbl, hgx, -, hpl, -⟩ := rdChg_at HS1.out.r4 hk4
      obtain ⟨p1, p2, p3⟩ := HOK.out.place hgx
      have hpn : placeOf s k < s.cons.length := by omega
      subst hA4
      have e1 := (HW.out.cell (p := ⟨b, off + k * 8 + 1, none⟩) hbl).trans hpl
      rw [← p3] at e1
      have hbW : b < wr.heap.size := by omega
      have hcl := Lib.hid (r8On_any a1 a2 a3 (some ⟨b, off, none⟩) a5 n1 c1 n2 c2 n3 c3 n4 c4 n5 c5 s.cons HOK.out.ups (placeOf s k) hpn HS1.out.l1 hn16 co wr.drew (HS1.out.keep (show Below w1.heap.size w1 wr.drew from HW.out.drew)).r1)
      clear hgx p1 p2 p3 hpl
      go_wp2_with fail
      go_still_tail 8, (by kernel_rfl)
      change wpList _ _ _ _ _ wr.drew
      go_wp2_with fail
      refine hcl.out.mono ?_
      rintro e w3 ⟨rfl, hb3⟩
      have hb4 : Below wr.heap.size wr w3 := ((Below.refl _ wr).drew).trans hb3
      have HL3 := Lib.hid (HL.out.keep hb4)
      have HW3 := Lib.hid (below_then HW.out hb4)
      have hsz3 : w1.heap.size ≤ w3.heap.size := HW3.out.size
      have hll : (belowL s co k).length ≤ 1000000 := by have := belowL_len s co k; omega
      have t3 := (HW3.out.cell (p := ⟨w.heap.size, 3, none⟩) hs1b).trans q3
      clear hcl hb3 hb4 HL HW e1
      cases hbk : isBel s co k
      · have hdec : decide (co ∈ pthI s.cons (placeOf s k)) = false := hbk
        have HLK : Hid (OwnL w3 w1.heap.size u6 (belowL s co (k + 1))) := Lib.hid (by rw [belowL_no hbk]; exact HL3.out)
        clear hbk HL3
        go_wp2_with fail
        go_roundg (n4 - (k + 1))
        case measure => omega
        case rel => exact ⟨k + 1, by go_num, by omega, by omega, HLK, HW3⟩
      · have hdec : decide (co ∈ pthI s.cons (placeOf s k)) = true := hbk
        obtain ⟨ap, v', w4, ap1, ap2, ap3, ap4, ap5⟩ := app_int ((k : Nat) : Int) HL3.out hsz3 hll
        have hbl2 : Below w1.heap.size w3 w4 := OwnL.below HL3.out ap4 hsz3
        have HLK : Hid (OwnL w4 w1.heap.size v' (belowL s co (k + 1))) := Lib.hid (by rw [belowL_yes hbk]; exact ap3)
        have HW4 := Lib.hid (HW3.out.trans hbl2)
        obtain ⟨a', c', hv'⟩ := ap3.shape
        rw [show (belowL s co k ++ [((k : Nat) : Int)]).length = (belowL s co k).length + 1 by simp] at hv'
        clear hbk HL3 ap3 ap4 ap5 hbl2 HW3
        subst hv'
        go_wp2_with fail
        go_roundg (n4 - (k + 1))
        case measure => omega
        case rel => exact ⟨k + 1, by go_num, by omega, by omega, HLK, HW4⟩
    · have hltz : ¬ (k : Int) < (n4 : Int) := by omega
      have hkn : k = n4 := by omega
      subst hkn
      have HLR := Lib.hid HL.out.rd
      go_wp2_with fail
      refine bodyPost_ret (results_tmp2 rfl _ _ _) rfl ?_
      obtain ⟨a, c, hv, hr⟩ := HLR.out
      have hcl : s.chgs.length = k := HS1.out.l4
      refine ⟨a, c, ?_, ?_, below_then HB.out HW.out⟩
      · rw [HY.out, belowO_yes HY.out, hcl, ← hv]
        rfl
      · rw [belowO_yes HY.out, hcl]
        exact hr
end Go.Proofs.Ytjlfnhfiiailgaa
