/-
site.Valid, walked.
-/
import Derived.Test.YtjlfnhfiiailgaaCSiteD
import Derived.Test.YtjlfnhfiiailgaaCSiteA
import Derived.Test.YtjlfnhfiiailgaaCParC
namespace Go.Proofs.Ytjlfnhfiiailgaa
open Go.RowKit Go.Maps
set_option linter.unusedVariables false
set_option linter.unusedSimpArgs false
theorem strK : Keyed Try.prog 9 := string_keyed Try.underlying9
def nmLit (x : ByteArray) : Lit := .string x.data.toList
theorem nmLit_inj {x y : ByteArray} : nmLit x = nmLit y ↔ x.toList = y.toList := by
  unfold nmLit
  rw [ByteArray.toList_eq, ByteArray.toList_eq]
  constructor
  · intro h; injection h
  · intro h; rw [h]
theorem okSite_of {s : GSite} (h : OkSite keyL s) : PartsP s := ⟨h.con, h.ctr, h.cards, h.chg, h.bay⟩
theorem okSB_of {keys : List (List UInt8)} {s : GSite} (h : ¬ OkSite keys s) : false = okSB keys s := (okSB_no h).symm
set_option maxRecDepth 100000 in
set_option maxHeartbeats 16000000 in
theorem stValid_any (a1 a2 a3 a4 a5 : Option Addr) (n1 c1 n2 c2 n3 c3 n4 c4 n5 c5 : Nat) (s : GSite) (w : World) (HS : Hid (RdSite w a1 a2 a3 a4 a5 n1 n2 n3 n4 n5 s)) :
    Calls Try.prog 26 #[.agg #[.slice a1 n1 c1, .slice a2 n2 c2, .slice a3 n3 c3, .slice a4 n4 c4, .slice a5 n5 c5]] w fun e w' => e = .returned (.bool (okSB keyL s)) ∧ Below w.heap.size w w' := by
  obtain ⟨m1, m2, m3, m4, m5⟩ : n1 ≤ 9223372036854775807 ∧ n2 ≤ 9223372036854775807 ∧ n3 ≤ 9223372036854775807 ∧ n4 ≤ 9223372036854775807 ∧ n5 ≤ 9223372036854775807 := ⟨HS.out.m1, HS.out.m2, HS.out.m3, HS.out.m4, HS.out.m5⟩
  by_cases c1a : 1 ≤ n1
  case neg =>
    have HF : Hid (false = okSB keyL s) := Lib.hid (okSB_of (fun h => c1a (by have := h.n1; rw [HS.out.l1] at this; exact this)))
    have z0 : (n1 : Int) < 1 := by omega
    clear c1a
    go_enter Try.func26, Try.ntmps26
    go_wp2_with fail
    go_ret
    exact ⟨ret_bool HF.out, (Below.refl _ w).alloc (Nat.le_refl _) _⟩
  have z0 : ¬ (n1 : Int) < 1 := by omega
  by_cases c1b : n1 ≤ 16
  case neg =>
    have HF : Hid (false = okSB keyL s) := Lib.hid (okSB_of (fun h => c1b (by have := h.n2; rw [HS.out.l1] at this; exact this)))
    have z1 : (16 : Int) < (n1 : Int) := by omega
    clear c1b
    go_enter Try.func26, Try.ntmps26
    go_wp2_with fail
    go_ret
    exact ⟨ret_bool HF.out, (Below.refl _ w).alloc (Nat.le_refl _) _⟩
  have z1 : ¬ (16 : Int) < (n1 : Int) := by omega
  by_cases c2a : n2 ≤ 8
  case neg =>
    have HF : Hid (false = okSB keyL s) := Lib.hid (okSB_of (fun h => c2a (by have := h.n3; rw [HS.out.l2] at this; exact this)))
    have z2 : (8 : Int) < (n2 : Int) := by omega
    clear c2a
    go_enter Try.func26, Try.ntmps26
    go_wp2_with fail
    go_ret
    exact ⟨ret_bool HF.out, (Below.refl _ w).alloc (Nat.le_refl _) _⟩
  have z2 : ¬ (8 : Int) < (n2 : Int) := by omega
  by_cases c3a : n3 ≤ 32
  case neg =>
    have HF : Hid (false = okSB keyL s) := Lib.hid (okSB_of (fun h => c3a (by have := h.n4; rw [HS.out.l3] at this; exact this)))
    have z3 : (32 : Int) < (n3 : Int) := by omega
    clear c3a
    go_enter Try.func26, Try.ntmps26
    go_wp2_with fail
    go_ret
    exact ⟨ret_bool HF.out, (Below.refl _ w).alloc (Nat.le_refl _) _⟩
  have z3 : ¬ (32 : Int) < (n3 : Int) := by omega
  by_cases c4a : n4 ≤ 16
  case neg =>
    have HF : Hid (false = okSB keyL s) := Lib.hid (okSB_of (fun h => c4a (by have := h.n5; rw [HS.out.l4] at this; exact this)))
    have z4 : (16 : Int) < (n4 : Int) := by omega
    clear c4a
    go_enter Try.func26, Try.ntmps26
    go_wp2_with fail
    go_ret
    exact ⟨ret_bool HF.out, (Below.refl _ w).alloc (Nat.le_refl _) _⟩
  have z4 : ¬ (16 : Int) < (n4 : Int) := by omega
  by_cases c5a : n5 ≤ 24
  case neg =>
    have HF : Hid (false = okSB keyL s) := Lib.hid (okSB_of (fun h => c5a (by have := h.n6; rw [HS.out.l5] at this; exact this)))
    have z5 : (24 : Int) < (n5 : Int) := by omega
    clear c5a
    go_enter Try.func26, Try.ntmps26
    go_wp2_with fail
    go_ret
    exact ⟨ret_bool HF.out, (Below.refl _ w).alloc (Nat.le_refl _) _⟩
  have z5 : ¬ (24 : Int) < (n5 : Int) := by omega
  obtain ⟨W0, hW0⟩ : ∃ W0, W0 = w.alloc (.cells #[.slice a1 n1 c1, .slice a2 n2 c2, .slice a3 n3 c3, .slice a4 n4 c4, .slice a5 n5 c5] 28) := ⟨_, rfl⟩
  have b0 : Below w.heap.size w W0 := by rw [hW0]; exact (Below.refl _ w).alloc (Nat.le_refl _) _
  have hs0 : w.heap.size < W0.heap.size := by rw [hW0]; simp
  have q0 : W0.cell? ⟨w.heap.size, 0, none⟩ = some (.slice a1 n1 c1) := by rw [hW0]; go_simp
  have q1 : W0.cell? ⟨w.heap.size, 1, none⟩ = some (.slice a2 n2 c2) := by rw [hW0]; go_simp
  have q2 : W0.cell? ⟨w.heap.size, 2, none⟩ = some (.slice a3 n3 c3) := by rw [hW0]; go_simp
  have q3 : W0.cell? ⟨w.heap.size, 3, none⟩ = some (.slice a4 n4 c4) := by rw [hW0]; go_simp
  have q4 : W0.cell? ⟨w.heap.size, 4, none⟩ = some (.slice a5 n5 c5) := by rw [hW0]; go_simp
  have HW0 := Lib.hid hW0.symm
  have HB0 := Lib.hid b0
  have HSW := Lib.hid (HS.out.keep b0)
  have HL : Hid (s.cons.length = n1 ∧ s.owns.length = n2 ∧ s.ctrs.length = n3 ∧ s.chgs.length = n4 ∧ s.bays.length = n5) := Lib.hid ⟨HS.out.l1, HS.out.l2, HS.out.l3, HS.out.l4, HS.out.l5⟩
  have HSZ : Hid (∀ x, x ∈ allNames s → x.size ≤ maxLen) := Lib.hid HS.out.nm
  have HLN : Hid ((allNames s).length = n1 + n2 + n3 + n4 + n5) := Lib.hid (by
    unfold allNames
    simp only [List.length_append, List.length_map, HS.out.l1, HS.out.l2, HS.out.l3, HS.out.l4, HS.out.l5])
  clear hW0 b0 HS
  have hmm := @run_makeMap Try.prog
  go_enter Try.func26, Try.ntmps26
  go_upto_region 3 with (fail)
  rw [HW0.out]
  have HM0 : Hid (SetM Try.prog 9 4 (W0.alloc (.map #[] 0)) W0.heap.size 0 ([].map nmLit)) := Lib.hid (SetM.made _)
  have am : Below W0.heap.size W0 (W0.alloc (.map #[] 0)) := (Below.refl _ _).alloc (Nat.le_refl _) _
  have HAM := Lib.hid am
  have HC4 := Lib.hid (stNames_any a1 a2 a3 a4 a5 n1 c1 n2 c2 n3 c3 n4 c4 n5 c5 s (W0.alloc (.map #[] 0)) (Lib.hid (HSW.out.keep am)) c1b c2a c3a c4a c5a)
  clear am
  go_wp2_with fail
  refine HC4.out.mono ?_
  rintro e w1 ⟨aN, cN, rfl, rN, hbN⟩
  obtain ⟨L, hL⟩ : ∃ L, L = n1 + n2 + n3 + n4 + n5 := ⟨_, rfl⟩
  rw [← hL] at HLN ⊢
  have hL96 : L ≤ 96 := by omega
  have HRN := Lib.hid rN
  obtain ⟨B, hB⟩ : ∃ B, B = W0.heap.size := ⟨_, rfl⟩
  have HM1 : Hid (SetM Try.prog 9 4 w1 B 0 (((allNames s).take 0).map nmLit)) := Lib.hid (by rw [hB]; exact HM0.out.keep hbN)
  have HB1 : Hid (Below W0.heap.size W0 w1) := Lib.hid (below_then HAM.out hbN)
  have hBl : W0.heap.size ≤ B := by omega
  have hBN : B < w1.heap.size := by rw [hB]; exact Nat.lt_of_lt_of_le (by simp) hbN.size
  have HBB := Lib.hid hB
  have HRNB : Hid (0 < L → ∀ b, aN = some b → b.block ≠ B) := Lib.hid (fun h0 b hb e => by
    obtain ⟨b', off, hA, hlt, hc⟩ := rN (by rw [HLN.out]; exact h0)
    rw [hb] at hA
    injection hA with hA
    subst hA
    dsimp only at e
    obtain ⟨x, hx⟩ : ∃ x, (allNames s)[0]? = some x := ⟨_, List.getElem?_eq_getElem (by rw [HLN.out]; exact h0)⟩
    have h3 := hc 0 x hx 0 _ rfl
    obtain ⟨D, ⟨es, clock, hm, _⟩, _⟩ := HM1.out
    rw [e] at h3
    unfold World.cell? at h3
    rw [hm] at h3
    simp at h3)
  clear hB hbN rN hL HC4 HM0 HAM
  go_wp2_with fail
  rw [← HBB.out]
  clear HBB
  go_loopg [5, 44] L (fun g1 v5 v44 wr => ∃ k : Nat, v44 = .int .i64 k ∧ k ≤ L ∧ L - k ≤ g1 ∧ Hid (SetM Try.prog 9 4 wr B k (((allNames s).take k).map nmLit)) ∧ Hid (∀ x, x ∈ (allNames s).take k → okNameB keyL x = true) ∧ Hid ((((allNames s).take k).map (·.toList)).Nodup) ∧ Hid (Rd 1 encS wr aN (allNames s)) ∧ Hid (Below W0.heap.size W0 wr))
  case atStart => exact ⟨0, by go_num, by omega, by omega, HM1, Lib.hid (fun x hx => by simp at hx), Lib.hid (by simp), HRN, HB1⟩
  case round =>
    clear HM1 HB1 HRN hBN
    obtain ⟨k, rfl, hk, hg1, HM, HA, HND, HRN, HB⟩ := hrel
    by_cases hlt : k < L
    · have hltz : (k : Int) < (L : Int) := by omega
      obtain ⟨b, off, x, hbe, hbl, hx, hxc⟩ := rdOwn_at HRN.out (k := k) (by rw [HLN.out]; exact hlt)
      have hsz := HSZ.out x (List.mem_of_getElem? hx)
      have hCall := Lib.hid (stGood_any x wr (by unfold maxLen at hsz; omega))
      have HXK := Lib.hid hx
      have HSX := Lib.hid hsz
      have HNE := Lib.hid (HRNB.out (by omega) _ hbe)
      subst hbe
      clear hx hsz
      go_wp2_with fail
      refine hCall.out.mono ?_
      rintro e w5 ⟨rfl, hb5⟩
      have HM5 := Lib.hid (HM.out.keep hb5)
      have HR5 := Lib.hid (HRN.out.keep hb5)
      have HB5 := Lib.hid (HB.out.trans (hb5.mono HB.out.size))
      clear hb5 hCall HM HRN HB
      obtain ⟨z, hz⟩ : ∃ z, okNameB keyL x = z := ⟨_, rfl⟩
      rw [hz]
      have HZ := Lib.hid hz
      clear hz
      cases z
      · have HF : Hid (false = okSB keyL s) := Lib.hid (okSB_of (fun h => by
          have := h.names.1 x (List.mem_of_getElem? HXK.out)
          rw [HZ.out] at this; cases this))
        have HE := Lib.hid (below_then HB0.out HB5.out)
        go_wp2_with fail
        go_ret
        exact ⟨ret_bool HF.out, HE.out⟩
      have hkey : keyOf Try.prog 9 (.string x) = some (nmLit x) := WideMaps.keyOf_string_mk Try.underlying9 HSX.out
      have hlook := HM5.out.look strK Try.underlying75 Try.underlying4 (zeroB w5) hkey trivial
      obtain ⟨z2, hz2⟩ : ∃ z, inS (((allNames s).take k).map nmLit) (nmLit x) = z := ⟨_, rfl⟩
      rw [hz2] at hlook
      have HZ2 := Lib.hid hz2
      have HKEY := Lib.hid hkey
      clear hz2 hkey
      cases z2
      case true =>
        have HF : Hid (false = okSB keyL s) := Lib.hid (okSB_of (fun h => by
          obtain ⟨y, hy, hyx⟩ := List.mem_map.1 (inS_iff.1 HZ2.out)
          have hyx2 := nmLit_inj.1 hyx
          have hnd := h.names.2
          have e : (allNames s).map (·.toList) = ((allNames s).take k).map (·.toList) ++ ((allNames s).drop k).map (·.toList) := by rw [← List.map_append, List.take_append_drop]
          rw [e, List.nodup_append] at hnd
          exact hnd.2.2 _ (List.mem_map.2 ⟨y, hy, rfl⟩) _ (List.mem_map.2 ⟨x, List.mem_of_getElem? (i := 0) (by rw [List.getElem?_drop]; exact HXK.out), rfl⟩) hyx2))
        have HE := Lib.hid (below_then HB0.out HB5.out)
        go_wp2_with fail
        go_ret
        exact ⟨ret_bool HF.out, HE.out⟩
      obtain ⟨w6, hput, HM6, HMD⟩ := HM5.out.put (t := 75) strK Try.underlying75 Try.underlying4 (by omega) HKEY.out trivial
      have HTK : Hid ((allNames s).take (k + 1) = (allNames s).take k ++ [x]) := Lib.hid (take_snoc HXK.out)
      have HM7 : Hid (SetM Try.prog 9 4 w6 B (k + 1) (((allNames s).take (k + 1)).map nmLit)) := Lib.hid (by
        rw [HTK.out, List.map_append]
        exact HM6.out)
      have HB6 : Hid (Below W0.heap.size W0 w6) := Lib.hid (HB5.out.trans (HMD.out.below HB5.out.size (fun q _ hq => by rw [hq]; exact hBl)))
      have HR6 : Hid (Rd 1 encS w6 (some ⟨b, off, none⟩) (allNames s)) := Lib.hid (HR5.out.mod HMD.out (fun a ha _ hq => by
        injection ha with ha
        rw [← ha] at hq
        exact HNE.out hq))
      have HA2 : Hid (∀ y, y ∈ (allNames s).take (k + 1) → okNameB keyL y = true) := Lib.hid (fun y hy => by
        rw [HTK.out] at hy
        rcases List.mem_append.1 hy with h | h
        · exact HA.out y h
        · simp at h; rw [h]; exact HZ.out)
      have HND2 : Hid ((((allNames s).take (k + 1)).map (·.toList)).Nodup) := Lib.hid (by
        rw [HTK.out, List.map_append, List.nodup_append]
        refine ⟨HND.out, by simp, fun u hu v hv e => ?_⟩
        simp at hv
        subst hv
        subst e
        obtain ⟨y, hy, hyx⟩ := List.mem_map.1 hu
        have := inS_iff.2 (List.mem_map.2 ⟨y, hy, nmLit_inj.2 hyx⟩ : nmLit x ∈ ((allNames s).take k).map nmLit)
        rw [HZ2.out] at this
        cases this)
      clear HM5 HMD HM6 HA HND HZ HZ2 HTK HR5 HB5
      go_wp2_with fail
      go_roundg (L - (k + 1))
      case measure => omega
      case rel => exact ⟨k + 1, by go_num, by omega, by omega, HM7, HA2, HND2, HR6, HB6⟩
    · have hltz : ¬ (k : Int) < (L : Int) := by omega
      have HNM : Hid (okNamesP keyL (allNames s)) := Lib.hid (by
        have h1 := HA.out
        have h2 := HND.out
        rw [List.take_of_length_le (by rw [HLN.out]; omega)] at h1 h2
        exact ⟨h1, h2⟩)
      have p0 := (HB.out.cell (p := ⟨w.heap.size, 0, none⟩) hs0).trans q0
      have p1 := (HB.out.cell (p := ⟨w.heap.size, 1, none⟩) hs0).trans q1
      have p2 := (HB.out.cell (p := ⟨w.heap.size, 2, none⟩) hs0).trans q2
      have p3 := (HB.out.cell (p := ⟨w.heap.size, 3, none⟩) hs0).trans q3
      have p4 := (HB.out.cell (p := ⟨w.heap.size, 4, none⟩) hs0).trans q4
      have hCall := Lib.hid (stParts_any a1 a2 a3 a4 a5 n1 c1 n2 c2 n3 c3 n4 c4 n5 c5 s wr (Lib.hid (HSW.out.keep (HB.out))) c1b c2a c3a c4a c5a)
      have HOK : Hid (partsB s = okSB keyL s) := Lib.hid (by
        rw [Bool.eq_iff_iff, partsB_iff, okSB_iff]
        refine ⟨fun h => ⟨by rw [HL.out.1]; exact c1a, by rw [HL.out.1]; exact c1b, by rw [HL.out.2.1]; exact c2a, by rw [HL.out.2.2.1]; exact c3a, by rw [HL.out.2.2.2.1]; exact c4a, by rw [HL.out.2.2.2.2]; exact c5a, HNM.out, h.con, h.ctr, h.cards, h.chg, h.bay⟩, okSite_of⟩)
      have HBw := Lib.hid (below_then HB0.out HB.out)
      clear HM HA HND HRN HB
      go_wp2_with fail
      refine hCall.out.mono ?_
      rintro e w9 ⟨rfl, hb9⟩
      have HE := Lib.hid (below_then HBw.out hb9)
      clear hb9
      go_wp2_with fail
      go_ret
      exact ⟨ret_bool HOK.out, HE.out⟩
end Go.Proofs.Ytjlfnhfiiailgaa
