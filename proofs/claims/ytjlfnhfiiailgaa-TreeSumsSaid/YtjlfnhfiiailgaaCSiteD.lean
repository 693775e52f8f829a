/-
site.validParts, walked.
-/
import Derived.Test.YtjlfnhfiiailgaaCSiteC
import Derived.Test.YtjlfnhfiiailgaaCMapS
namespace Go.Proofs.Ytjlfnhfiiailgaa
open Go.RowKit Go.Maps
set_option linter.unusedVariables false
set_option linter.unusedSimpArgs false
theorem okConB_ok (k : Nat) (c : GCon) : okConB (k : Int) c = okCon k c := by
  unfold okConB okCon okUp
  congr 1
  congr 1
  congr 1
  rw [Bool.eq_iff_iff]
  simp only [decide_eq_true_eq]
  omega
structure PartsP (s : GSite) : Prop where
  con : ∀ i c, s.cons[i]? = some c → okCon i c = true
  ctr : ∀ c, c ∈ s.ctrs → okCtr s.owns.length c = true
  cards : (s.ctrs.map (·.card)).Nodup
  chg : ∀ c, c ∈ s.chgs → okChg s.cons.length s.owns.length c = true
  bay : ∀ b, b ∈ s.bays → okBay s.chgs.length b = true
noncomputable def partsB (s : GSite) : Bool := @decide (PartsP s) (Classical.propDecidable _)
theorem partsB_iff {s : GSite} : partsB s = true ↔ PartsP s := @decide_eq_true_iff _ (Classical.propDecidable _)
theorem partsB_no {s : GSite} (h : ¬ PartsP s) : false = partsB s := by
  cases e : partsB s
  · rfl
  · exact absurd (partsB_iff.1 e) h
theorem intK : Keyed Try.prog 3 := int_keyed Try.underlying3
theorem zeroB (w : World) : (zeroValue 4).run Try.prog w = .ok (.bool false) w := by kernel_rfl
def cardL (l : List GCtr) : List Lit := l.map (fun c => .int .i64 c.card)
theorem mem_cardL {l : List GCtr} {x : Int} : (Lit.int .i64 x) ∈ cardL l ↔ x ∈ l.map (·.card) := by
  unfold cardL
  simp only [List.mem_map]
  constructor
  · rintro ⟨c, h1, h2⟩; exact ⟨c, h1, by injection h2⟩
  · rintro ⟨c, h1, h2⟩; exact ⟨c, h1, by rw [h2]⟩
set_option maxRecDepth 100000 in
set_option maxHeartbeats 16000000 in
theorem stParts_any (a1 a2 a3 a4 a5 : Option Addr) (n1 c1 n2 c2 n3 c3 n4 c4 n5 c5 : Nat) (s : GSite) (w : World) (HS : Hid (RdSite w a1 a2 a3 a4 a5 n1 n2 n3 n4 n5 s)) (h1 : n1 ≤ 16) (h2 : n2 ≤ 8) (h3 : n3 ≤ 32) (h4 : n4 ≤ 16) (h5 : n5 ≤ 24) :
    Calls Try.prog 38 #[.agg #[.slice a1 n1 c1, .slice a2 n2 c2, .slice a3 n3 c3, .slice a4 n4 c4, .slice a5 n5 c5]] w fun e w' => e = .returned (.bool (partsB s)) ∧ Below w.heap.size w w' := by
  obtain ⟨W0, hW0⟩ : ∃ W0, W0 = w.alloc (.cells #[.slice a1 n1 c1, .slice a2 n2 c2, .slice a3 n3 c3, .slice a4 n4 c4, .slice a5 n5 c5] 28) := ⟨_, rfl⟩
  have b0 : Below w.heap.size w W0 := by rw [hW0]; exact (Below.refl _ w).alloc (Nat.le_refl _) _
  have hs0 : w.heap.size < W0.heap.size := by rw [hW0]; simp
  have q0 : W0.cell? ⟨w.heap.size, 0, none⟩ = some (.slice a1 n1 c1) := by rw [hW0]; go_simp
  have q1 : W0.cell? ⟨w.heap.size, 1, none⟩ = some (.slice a2 n2 c2) := by rw [hW0]; go_simp
  have q2 : W0.cell? ⟨w.heap.size, 2, none⟩ = some (.slice a3 n3 c3) := by rw [hW0]; go_simp
  have q3 : W0.cell? ⟨w.heap.size, 3, none⟩ = some (.slice a4 n4 c4) := by rw [hW0]; go_simp
  have q4 : W0.cell? ⟨w.heap.size, 4, none⟩ = some (.slice a5 n5 c5) := by rw [hW0]; go_simp
  have HW0 := Lib.hid hW0.symm
  have HB0 := Lib.hid b0
  have HSW := Lib.hid (HS.out.keep b0)
  have HL : Hid (s.cons.length = n1 ∧ s.owns.length = n2 ∧ s.ctrs.length = n3 ∧ s.chgs.length = n4 ∧ s.bays.length = n5) := Lib.hid ⟨HS.out.l1, HS.out.l2, HS.out.l3, HS.out.l4, HS.out.l5⟩
  clear hW0 b0
  have hmm := @run_makeMap Try.prog
  go_enter Try.func38, Try.ntmps38
  go_upto_region 1 with (fail)
  rw [HW0.out]
  go_wp2_with fail
  go_loopg [3, 4, 15] n1 (fun g1 v3 v4 v15 wr => ∃ k : Nat, v15 = .int .i64 k ∧ k ≤ n1 ∧ n1 - k ≤ g1 ∧ Hid (∀ i c, i < k → s.cons[i]? = some c → okCon i c = true) ∧ Hid (Below W0.heap.size W0 wr))
  case atStart => exact ⟨0, by go_num, by omega, by omega, Lib.hid (fun i c hi => by omega), Lib.hid (Below.refl _ _)⟩
  case round =>
    obtain ⟨k, rfl, hk, hg1, HA, HB⟩ := hrel
    by_cases hlt : k < n1
    · have hltz : (k : Int) < (n1 : Int) := by omega
      obtain ⟨b, off, c, hbe, hbl, hc, k0, k1, k2, k3, k4, k5, k6, k7, k8, k9, k10⟩ := rdCon_at (HSW.out.r1.keep HB.out) (k := k) (by rw [HSW.out.l1]; exact hlt)
      have al : Below wr.heap.size wr (wr.alloc (.cells #[.string c.name, .int .i64 c.up, .int .i64 c.limit, .int .i64 c.neutral, .int .i64 c.rated, .int .i64 c.heat, .int .i64 c.amb, .int .i64 c.most, .int .i64 c.gain, .int .i64 c.loss, .int .i64 c.den] 48)) := (Below.refl _ _).alloc (Nat.le_refl _) _
      have HBA := Lib.hid (HB.out.trans (al.mono HB.out.size))
      have hCall := Lib.hid (stCon_any c (k : Int) (wr.alloc (.cells #[.string c.name, .int .i64 c.up, .int .i64 c.limit, .int .i64 c.neutral, .int .i64 c.rated, .int .i64 c.heat, .int .i64 c.amb, .int .i64 c.most, .int .i64 c.gain, .int .i64 c.loss, .int .i64 c.den] 48)))
      have HC := Lib.hid hc
      subst hbe
      clear hc al HB
      go_wp2_with fail
      refine hCall.out.mono ?_
      rw [okConB_ok]
      rintro e w5 ⟨rfl, hb5⟩
      have HB5 := Lib.hid (HBA.out.trans (hb5.mono HBA.out.size))
      clear hb5
      obtain ⟨z, hz⟩ : ∃ z, okCon k c = z := ⟨_, rfl⟩
      rw [hz]
      have HZ := Lib.hid hz
      clear hz
      cases z
      · have HF : Hid (false = partsB s) := Lib.hid (partsB_no (fun h => by have := h.con k c HC.out; rw [HZ.out] at this; cases this))
        have HE := Lib.hid (below_then HB0.out HB5.out)
        go_wp2_with fail
        go_ret
        exact ⟨ret_bool HF.out, HE.out⟩
      · have HA2 : Hid (∀ i c, i < k + 1 → s.cons[i]? = some c → okCon i c = true) := Lib.hid (fun i c' hi hc' => by
          by_cases e : i = k
          · subst e
            rw [HC.out] at hc'
            injection hc' with hc'
            rw [← hc']; exact HZ.out
          · exact HA.out i c' (by omega) hc')
        clear HA
        go_wp2_with fail
        go_roundg (n1 - (k + 1))
        case measure => omega
        case rel => exact ⟨k + 1, by go_num, by omega, by omega, HA2, HB5⟩
    · have hltz : ¬ (k : Int) < (n1 : Int) := by omega
      have HCON : Hid (∀ i c, s.cons[i]? = some c → okCon i c = true) := Lib.hid (fun i c hc => HA.out i c (by have := (List.getElem?_eq_some_iff.1 hc).1; rw [HL.out.1] at this; omega) hc)
      have p2 := (HB.out.cell (p := ⟨w.heap.size, 2, none⟩) hs0).trans q2
      have HBm := Lib.hid (HB.out.alloc HB.out.size (.map #[] 0))
      have HM0 : Hid (SetM Try.prog 3 4 (wr.alloc (.map #[] 0)) wr.heap.size 0 (cardL (s.ctrs.take 0))) := Lib.hid (SetM.made _)
      have hBl := HB.out.size
      have hsr : w.heap.size < wr.heap.size := by omega
      obtain ⟨B, hB⟩ : ∃ B, B = wr.heap.size := ⟨_, rfl⟩
      have HBB := Lib.hid hB
      rw [← hB] at HM0 hBl
      clear HA HB hk hg1 hlt hB
      go_wp2_with fail
      rw [← HBB.out]
      clear HBB p2 hsr
      go_loopg [7, 29] n3 (fun g1 v7 v29 wr => ∃ k : Nat, v29 = .int .i64 k ∧ k ≤ n3 ∧ n3 - k ≤ g1 ∧ Hid (SetM Try.prog 3 4 wr B k (cardL (s.ctrs.take k))) ∧ Hid (∀ i c, i < k → s.ctrs[i]? = some c → okCtr n2 c = true) ∧ Hid (((s.ctrs.take k).map (·.card)).Nodup) ∧ Hid (Below W0.heap.size W0 wr))
      case atStart => exact ⟨0, by go_num, by omega, by omega, HM0, Lib.hid (fun i c hi => by omega), Lib.hid (by simp), HBm⟩
      case round =>
        clear HM0 HBm
        obtain ⟨k, rfl, hk, hg1, HM, HA, HND, HB⟩ := hrel
        have p1 := (HB.out.cell (p := ⟨w.heap.size, 1, none⟩) hs0).trans q1
        have hsr : w.heap.size < wr.heap.size := Nat.lt_of_lt_of_le hs0 HB.out.size
        by_cases hlt : k < n3
        · have hltz : (k : Int) < (n3 : Int) := by omega
          obtain ⟨b, off, c, hbe, hbl, hc, k0, k1, k2, k3⟩ := rdCtr_at (HSW.out.r3.keep HB.out) (k := k) (by rw [HSW.out.l3]; exact hlt)
          obtain ⟨x0, hx0⟩ : ∃ z, inside c.own 0 ((n2 : Int) - 1) = z := ⟨_, rfl⟩
          obtain ⟨x1, hx1⟩ : ∃ z, inside c.rank 1 9 = z := ⟨_, rfl⟩
          obtain ⟨x2, hx2⟩ : ∃ z, inside c.card 1 1000000 = z := ⟨_, rfl⟩
          have HX0 := Lib.hid hx0
          have HX1 := Lib.hid hx1
          have HX2 := Lib.hid hx2
          have HOK : Hid (okCtr n2 c = (x0 && (x1 && x2))) := Lib.hid (by
            rw [← hx0, ← hx1, ← hx2, Bool.eq_iff_iff]
            unfold okCtr
            simp only [Bool.and_eq_true, inside_iff, decide_eq_true_eq]
            omega)
          have HBADC : Hid (okCtr n2 c = false → false = partsB s) := Lib.hid (fun h => partsB_no (fun hp => by
            have := hp.ctr c (List.mem_of_getElem? hc)
            rw [HL.out.2.1, h] at this
            cases this))
          have al : Below wr.heap.size wr (wr.alloc (.cells #[.string c.name, .int .i64 c.own, .int .i64 c.rank, .int .i64 c.card] 83)) := (Below.refl _ _).alloc (Nat.le_refl _) _
          obtain ⟨X, hX⟩ : ∃ X, X = wr.alloc (.cells #[.string c.name, .int .i64 c.own, .int .i64 c.rank, .int .i64 c.card] 83) := ⟨_, rfl⟩
          have g0 : X.cell? ⟨wr.heap.size, 1, none⟩ = some (.int .i64 c.own) := by rw [hX]; go_simp
          have g1 : X.cell? ⟨wr.heap.size, 2, none⟩ = some (.int .i64 c.rank) := by rw [hX]; go_simp
          have g2 : X.cell? ⟨wr.heap.size, 3, none⟩ = some (.int .i64 c.card) := by rw [hX]; go_simp
          have lX : wr.heap.size < X.heap.size := by rw [hX]; simp
          rw [← hX] at al
          have p1 := (al.cell (p := ⟨w.heap.size, 1, none⟩) hsr).trans p1
          have lS : w.heap.size < X.heap.size := by omega
          have HBX0 := Lib.hid (HB.out.trans (al.mono HB.out.size))
          have HMX := Lib.hid (HM.out.keep al)
          have HC := Lib.hid hc
          have HXX := Lib.hid hX.symm
          obtain ⟨bc, hbc⟩ : ∃ bc, bc = wr.heap.size := ⟨_, rfl⟩
          have HBC := Lib.hid hbc
          rw [← hbc] at g0 g1 g2 lX
          subst hbe
          clear hx0 hx1 hx2 hc al HB HM hX hbc
          go_upto_region 11 with (fail)
          rw [HXX.out, ← HBC.out]
          clear HXX HBC k0 k1 k2 k3 hsr
          go_wp2_with fail
          refine (stHolds_any 0 ((n2 : Int) - 1) c.own _).mono ?_
          rw [HX0.out]
          rintro e w1 ⟨rfl, hw1⟩
          have hb1 : Below X.heap.size X w1 := by rw [hw1]; exact (Below.refl _ _).alloc (Nat.le_refl _) _
          have HBX1 := Lib.hid (HBX0.out.trans (hb1.mono HBX0.out.size))
          have HM1 := Lib.hid (HMX.out.keep hb1)
          have g1 := (hb1.cell (p := ⟨bc, 2, none⟩) lX).trans g1
          have g2 := (hb1.cell (p := ⟨bc, 3, none⟩) lX).trans g2
          have lX := Nat.lt_of_lt_of_le lX hb1.size
          clear hw1 hb1 g0 HBX0 HMX
          cases x0
          · have HF := Lib.hid (HBADC.out (by rw [HOK.out]; rfl))
            have HE := Lib.hid (below_then HB0.out HBX1.out)
            go_wp2_with fail
            go_ret
            exact ⟨ret_bool HF.out, HE.out⟩
          go_wp2_with fail
          refine (stHolds_any 1 9 c.rank _).mono ?_
          rw [HX1.out]
          rintro e w2 ⟨rfl, hw2⟩
          have hb2 : Below w1.heap.size w1 w2 := by rw [hw2]; exact (Below.refl _ _).alloc (Nat.le_refl _) _
          have HBX2 := Lib.hid (HBX1.out.trans (hb2.mono HBX1.out.size))
          have HM2 := Lib.hid (HM1.out.keep hb2)
          have g2 := (hb2.cell (p := ⟨bc, 3, none⟩) lX).trans g2
          have lX := Nat.lt_of_lt_of_le lX hb2.size
          clear hw2 hb2 g1 HBX1 HM1
          cases x1
          · have HF := Lib.hid (HBADC.out (by rw [HOK.out]; rfl))
            have HE := Lib.hid (below_then HB0.out HBX2.out)
            go_wp2_with fail
            go_ret
            exact ⟨ret_bool HF.out, HE.out⟩
          go_wp2_with fail
          refine (stHolds_any 1 1000000 c.card _).mono ?_
          rw [HX2.out]
          rintro e w3 ⟨rfl, hw3⟩
          have hb3 : Below w2.heap.size w2 w3 := by rw [hw3]; exact (Below.refl _ _).alloc (Nat.le_refl _) _
          have HBX3 := Lib.hid (HBX2.out.trans (hb3.mono HBX2.out.size))
          have HM3 := Lib.hid (HM2.out.keep hb3)
          have g2 := (hb3.cell (p := ⟨bc, 3, none⟩) lX).trans g2
          have lX := Nat.lt_of_lt_of_le lX hb3.size
          clear hw3 hb3 HBX2 HM2
          cases x2
          · have HF := Lib.hid (HBADC.out (by rw [HOK.out]; rfl))
            have HE := Lib.hid (below_then HB0.out HBX3.out)
            go_wp2_with fail
            go_ret
            exact ⟨ret_bool HF.out, HE.out⟩
          have HWF : Hid ((Lit.int .i64 c.card).wf = true) := Lib.hid (by
            have := inside_iff.1 HX2.out
            simp [Lit.wf, IntKind.min, IntKind.max, IntKind.signed, IntKind.bits]
            omega)
          have hkey := keyOf_int_mk Try.underlying3 HWF.out
          have hlook := HM3.out.look intK Try.underlying90 Try.underlying4 (zeroB w3) hkey trivial
          obtain ⟨z, hz⟩ : ∃ z, inS (cardL (s.ctrs.take k)) (.int .i64 c.card) = z := ⟨_, rfl⟩
          rw [hz] at hlook
          have HZ := Lib.hid hz
          clear hz hkey
          cases z
          case true =>
            have HF : Hid (false = partsB s) := Lib.hid (partsB_no (fun hp => by
              have hm := mem_cardL.1 (inS_iff.1 HZ.out)
              have hnd := hp.cards
              have e : (s.ctrs.map (·.card)) = ((s.ctrs.take k).map (·.card)) ++ ((s.ctrs.drop k).map (·.card)) := by rw [← List.map_append, List.take_append_drop]
              rw [e, List.nodup_append] at hnd
              have hin : c.card ∈ (s.ctrs.drop k).map (·.card) := List.mem_map.2 ⟨c, List.mem_of_getElem? (i := 0) (by rw [List.getElem?_drop]; exact HC.out), rfl⟩
              exact hnd.2.2 _ hm _ hin rfl))
            have HE := Lib.hid (below_then HB0.out HBX3.out)
            go_wp2_with fail
            go_ret
            exact ⟨ret_bool HF.out, HE.out⟩
          obtain ⟨w4, hput, HM4, HMD⟩ := HM3.out.put (t := 90) intK Try.underlying90 Try.underlying4 (by omega) (keyOf_int_mk Try.underlying3 HWF.out) trivial
          have HTK : Hid (s.ctrs.take (k + 1) = s.ctrs.take k ++ [c]) := Lib.hid (take_snoc HC.out)
          have HM5 : Hid (SetM Try.prog 3 4 w4 B (k + 1) (cardL (s.ctrs.take (k + 1)))) := Lib.hid (by
            rw [HTK.out]
            have h := HM4.out
            unfold cardL at h ⊢
            rw [List.map_append]
            exact h)
          have HB4 : Hid (Below W0.heap.size W0 w4) := Lib.hid (HBX3.out.trans (HMD.out.below HBX3.out.size (fun q _ hq => by rw [hq]; exact hBl)))
          have HA2 : Hid (∀ i c, i < k + 1 → s.ctrs[i]? = some c → okCtr n2 c = true) := Lib.hid (fun i c' hi hc' => by
            by_cases e : i = k
            · subst e
              rw [HC.out] at hc'
              injection hc' with hc'
              rw [← hc', HOK.out]; rfl
            · exact HA.out i c' (by omega) hc')
          have HND2 : Hid (((s.ctrs.take (k + 1)).map (·.card)).Nodup) := Lib.hid (by
            rw [HTK.out, List.map_append, List.nodup_append]
            refine ⟨HND.out, by simp, fun x hx y hy e => ?_⟩
            simp at hy
            subst hy
            subst e
            have := inS_iff.2 (mem_cardL.2 hx)
            rw [HZ.out] at this
            cases this)
          clear HM3 HMD HM4 HA HND HZ HTK
          go_wp2_with fail
          go_roundg (n3 - (k + 1))
          case measure => omega
          case rel => exact ⟨k + 1, by go_num, by omega, by omega, HM5, HA2, HND2, HB4⟩
        · have hltz : ¬ (k : Int) < (n3 : Int) := by omega
          have HCTR : Hid (∀ c, c ∈ s.ctrs → okCtr s.owns.length c = true) := Lib.hid (fun c hc => by
            obtain ⟨i, hi⟩ := List.mem_iff_getElem?.1 hc
            rw [HL.out.2.1]
            exact HA.out i c (by have := (List.getElem?_eq_some_iff.1 hi).1; rw [HL.out.2.2.1] at this; omega) hi)
          have HCARD : Hid ((s.ctrs.map (·.card)).Nodup) := Lib.hid (by
            have h := HND.out
            rwa [List.take_of_length_le (by rw [HL.out.2.2.1]; omega)] at h)
          have p3 := (HB.out.cell (p := ⟨w.heap.size, 3, none⟩) hs0).trans q3
          have HB2 := HB
          clear HA HND HM hk hg1 hlt p1 HB
          go_wp2_with fail
          clear p3 hsr
          go_loopg [9, 69] n4 (fun g1 v9 v69 wr => ∃ k : Nat, v69 = .int .i64 k ∧ k ≤ n4 ∧ n4 - k ≤ g1 ∧ Hid (∀ i c, i < k → s.chgs[i]? = some c → okChg n1 n2 c = true) ∧ Hid (Below W0.heap.size W0 wr))
          case atStart => exact ⟨0, by go_num, by omega, by omega, Lib.hid (fun i c hi => by omega), HB2⟩
          case round =>
            clear HB2
            obtain ⟨k, rfl, hk, hg1, HA, HB⟩ := hrel
            have hsr : w.heap.size < wr.heap.size := Nat.lt_of_lt_of_le hs0 HB.out.size
            have p0 := (HB.out.cell (p := ⟨w.heap.size, 0, none⟩) hs0).trans q0
            have p1 := (HB.out.cell (p := ⟨w.heap.size, 1, none⟩) hs0).trans q1
            have p2 := (HB.out.cell (p := ⟨w.heap.size, 2, none⟩) hs0).trans q2
            have p3 := (HB.out.cell (p := ⟨w.heap.size, 3, none⟩) hs0).trans q3
            have p4 := (HB.out.cell (p := ⟨w.heap.size, 4, none⟩) hs0).trans q4
            by_cases hlt : k < n4
            · have hltz : (k : Int) < (n4 : Int) := by omega
              obtain ⟨b, off, c, hbe, hbl, hc, k0, k1, k2, k3, k4, k5, k6, k7⟩ := rdChg_at (HSW.out.r4.keep HB.out) (k := k) (by rw [HSW.out.l4]; exact hlt)
              have al : Below wr.heap.size wr (wr.alloc (.cells #[.string c.name, .int .i64 c.place, .int .i64 c.ph, .int .i64 c.mn, .int .i64 c.mx, .int .i64 c.step, .int .i64 c.fb, .int .i64 c.own] 42)) := (Below.refl _ _).alloc (Nat.le_refl _) _
              have HBA := Lib.hid (HB.out.trans (al.mono HB.out.size))
              have hCall := Lib.hid (stChg_any a1 a2 a3 a4 a5 n1 c1 n2 c2 n3 c3 n4 c4 n5 c5 c (wr.alloc (.cells #[.string c.name, .int .i64 c.place, .int .i64 c.ph, .int .i64 c.mn, .int .i64 c.mx, .int .i64 c.step, .int .i64 c.fb, .int .i64 c.own] 42)) h1 h2)
              have HC := Lib.hid hc
              subst hbe
              clear hc al HB
              go_wp2_with fail
              refine hCall.out.mono ?_
              rintro e w5 ⟨rfl, hb5⟩
              have HB5 := Lib.hid (HBA.out.trans (hb5.mono HBA.out.size))
              clear hb5
              obtain ⟨z, hz⟩ : ∃ z, okChg n1 n2 c = z := ⟨_, rfl⟩
              rw [hz]
              have HZ := Lib.hid hz
              clear hz
              cases z
              · have HF : Hid (false = partsB s) := Lib.hid (partsB_no (fun h => by
                  have := h.chg c (List.mem_of_getElem? HC.out)
                  rw [HL.out.1, HL.out.2.1, HZ.out] at this; cases this))
                have HE := Lib.hid (below_then HB0.out HB5.out)
                go_wp2_with fail
                go_ret
                exact ⟨ret_bool HF.out, HE.out⟩
              · have HA2 : Hid (∀ i c, i < k + 1 → s.chgs[i]? = some c → okChg n1 n2 c = true) := Lib.hid (fun i c' hi hc' => by
                  by_cases e : i = k
                  · subst e
                    rw [HC.out] at hc'
                    injection hc' with hc'
                    rw [← hc']; exact HZ.out
                  · exact HA.out i c' (by omega) hc')
                clear HA
                go_wp2_with fail
                go_roundg (n4 - (k + 1))
                case measure => omega
                case rel => exact ⟨k + 1, by go_num, by omega, by omega, HA2, HB5⟩
            · have hltz : ¬ (k : Int) < (n4 : Int) := by omega
              have HCHG : Hid (∀ c, c ∈ s.chgs → okChg s.cons.length s.owns.length c = true) := Lib.hid (fun c hc => by
                obtain ⟨i, hi⟩ := List.mem_iff_getElem?.1 hc
                rw [HL.out.1, HL.out.2.1]
                exact HA.out i c (by have := (List.getElem?_eq_some_iff.1 hi).1; rw [HL.out.2.2.2.1] at this; omega) hi)
              have HB2 := HB
              clear HA hk hg1 hlt HB
              go_wp2_with fail
              clear p0 p1 p2 p3 p4 hsr
              go_loopg [11, 81] n5 (fun g1 v11 v81 wr => ∃ k : Nat, v81 = .int .i64 k ∧ k ≤ n5 ∧ n5 - k ≤ g1 ∧ Hid (∀ i c, i < k → s.bays[i]? = some c → okBay n4 c = true) ∧ Hid (Below W0.heap.size W0 wr))
              case atStart => exact ⟨0, by go_num, by omega, by omega, Lib.hid (fun i c hi => by omega), HB2⟩
              case round =>
                clear HB2
                obtain ⟨k, rfl, hk, hg1, HA, HB⟩ := hrel
                have hsr : w.heap.size < wr.heap.size := Nat.lt_of_lt_of_le hs0 HB.out.size
                have p3 := (HB.out.cell (p := ⟨w.heap.size, 3, none⟩) hs0).trans q3
                by_cases hlt : k < n5
                · have hltz : (k : Int) < (n5 : Int) := by omega
                  obtain ⟨b, off, c, hbe, hbl, hc, k0, k1⟩ := rdBay_at (HSW.out.r5.keep HB.out) (k := k) (by rw [HSW.out.l5]; exact hlt)
                  have al : Below wr.heap.size wr (wr.alloc (.cells #[.string c.name, .int .i64 c.chg] 85)) := (Below.refl _ _).alloc (Nat.le_refl _) _
                  have HBA := Lib.hid (HB.out.trans (al.mono HB.out.size))
                  have HC := Lib.hid hc
                  obtain ⟨z, hz⟩ : ∃ z, inside c.chg 0 ((n4 : Int) - 1) = z := ⟨_, rfl⟩
                  have HZ := Lib.hid hz
                  have HOK : Hid (okBay n4 c = z) := Lib.hid (by
                    rw [← hz, Bool.eq_iff_iff]
                    unfold okBay
                    simp only [inside_iff, decide_eq_true_eq]
                    omega)
                  subst hbe
                  clear hc al HB hz
                  go_wp2_with fail
                  refine (stHolds_any 0 ((n4 : Int) - 1) c.chg _).mono ?_
                  rw [HZ.out]
                  rintro e w5 ⟨rfl, hw5⟩
                  have HB5 : Hid (Below W0.heap.size W0 w5) := Lib.hid (by rw [hw5]; exact HBA.out.alloc HBA.out.size _)
                  clear hw5
                  cases z
                  · have HF : Hid (false = partsB s) := Lib.hid (partsB_no (fun h => by
                      have := h.bay c (List.mem_of_getElem? HC.out)
                      rw [HL.out.2.2.2.1, HOK.out] at this; cases this))
                    have HE := Lib.hid (below_then HB0.out HB5.out)
                    go_wp2_with fail
                    go_ret
                    exact ⟨ret_bool HF.out, HE.out⟩
                  · have HA2 : Hid (∀ i c, i < k + 1 → s.bays[i]? = some c → okBay n4 c = true) := Lib.hid (fun i c' hi hc' => by
                      by_cases e : i = k
                      · subst e
                        rw [HC.out] at hc'
                        injection hc' with hc'
                        rw [← hc']; exact HOK.out
                      · exact HA.out i c' (by omega) hc')
                    clear HA
                    go_wp2_with fail
                    go_roundg (n5 - (k + 1))
                    case measure => omega
                    case rel => exact ⟨k + 1, by go_num, by omega, by omega, HA2, HB5⟩
                · have hltz : ¬ (k : Int) < (n5 : Int) := by omega
                  have HT : Hid (true = partsB s) := Lib.hid (partsB_iff.2 ⟨HCON.out, HCTR.out, HCARD.out, HCHG.out, fun c hc => by
                    obtain ⟨i, hi⟩ := List.mem_iff_getElem?.1 hc
                    rw [HL.out.2.2.2.1]
                    exact HA.out i c (by have := (List.getElem?_eq_some_iff.1 hi).1; rw [HL.out.2.2.2.2] at this; omega) hi⟩).symm
                  have HE := Lib.hid (below_then HB0.out HB.out)
                  clear HA HB
                  go_wp2_with fail
                  go_ret
                  exact ⟨ret_bool HT.out, HE.out⟩
end Go.Proofs.Ytjlfnhfiiailgaa
