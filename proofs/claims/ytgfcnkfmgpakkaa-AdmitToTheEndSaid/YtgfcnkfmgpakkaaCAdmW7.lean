/-
The law AdmitToTheEnd, walked.
-/
import Derived.Test.YtgfcnkfmgpakkaaCAdmW6
namespace Go.Proofs.Ytgfcnkfmgpakkaa
open Go.RowKit
set_option linter.unusedVariables false
set_option linter.unusedSimpArgs false
/-- Where the slots that were carried out have led. -/
def EndSt (w W : World) (N : Nat) (v0 v1 v6 : Value) (T : Nat) : Prop :=
  ∃ (js : List GJob) (sup : List Int) (ps : List (List Int)) (rs : List RowV) (A A2 A5 : Option Addr) (c c2 c5 : Nat), v0 = .slice A N c ∧ v1 = .slice A2 T c2 ∧ v6 = .slice A5 N c5 ∧ Rd 5 encJ W A js ∧ js.length = N ∧ Rd 1 encI W A2 sup ∧ sup.length = T ∧ T ≤ c2 ∧
    RdP W A5 rs ps ∧ ps.length = N ∧ capsOk rs ∧ planB js sup ps = true ∧ Below w.heap.size w W
set_option maxRecDepth 100000 in
set_option maxHeartbeats 8000000 in
theorem walk_AdmitToTheEnd (A : Option Addr) (c N : Nat) (js : List GJob) {w : World} (hR : Rd 5 encJ w A js) (HN : Hid (js.length = N)) (hl : N ≤ 9223372036854775807) (_ : ∀ x, x ∈ js → wfJ x)
    (A2 : Option Addr) (c2 T : Nat) (sup : List Int) (hR2 : Rd 1 encI w A2 sup) (HN2 : Hid (sup.length = T)) (hl2 : T ≤ 9223372036854775807) (_ : ∀ x, x ∈ sup → wf64 x) (hcap2 : T ≤ c2 ∧ c2 ≤ 9223372036854775807) :
    Calls Try.prog 6 #[.slice A N c, .slice A2 T c2] w fun e w' => e = .returned (.bool true) ∧ Below w.heap.size w w' := by
  go_enter Try.func6, Try.ntmps6
  go_wp2_with fail
  refine (laHead_any _).mono ?_
  rintro e w1 ⟨rfl, hb1⟩
  have b1 := hb1
  have af : Below w1.heap.size w1 (w1.alloc (.cells #[.slice A2 T c2] 23)) := (Below.refl _ _).alloc (Nat.le_refl _) _
  have rf : Rd 1 encRow (w1.alloc (.cells #[.slice A2 T c2] 23)) (some ⟨w1.heap.size, 0, none⟩) [⟨A2, T, c2⟩] := rd_rows w1 [⟨A2, T, c2⟩]
  have b2 := below_then b1 af
  clear hb1 b1 
  go_wp2_with fail
  refine (laFew_any A _ c N 1 1 [⟨A2, T, c2⟩] _ rf (Lib.hid rfl) (by omega) hl (fun r hr => by simp at hr; subst hr; exact hl2)).mono ?_
  rintro e w2 ⟨rfl, hw2⟩
  have hb2w : Below w.heap.size w w2 := by rw [hw2]; exact b2
  clear af rf b2 hw2
  have B2 := Lib.hid hb2w
  clear hb2w
  cases hfew : fewL [⟨A2, T, c2⟩] N
  · go_wp2_with fail
    go_ret
    exact ⟨rfl, B2.out⟩
  have hN := fewL_N hfew
  have hT : T ≤ 40 := fewL_r hfew (r := ⟨A2, T, c2⟩) (by simp)
  clear hfew
  go_wp2_with fail
  refine (plSchedule_caps A A2 c N c2 T js sup w2 (hR.keep B2.out) HN hl (hR2.keep B2.out) HN2 hl2).mono ?_
  rintro e w3 ⟨hb3, ⟨hok, rfl⟩ | ⟨gt, rs, ps, rfl, rp, hlp, hpl, hcs⟩ | ⟨a3, c3, a4, c4, cj, cs, rfl, r3, r4, hc1, hc2, hcut⟩⟩
  · have HB := Lib.hid ((below_then B2.out hb3).alloc (below_then B2.out hb3).size (.cells #[.slice none 0 0, .slice none 0 0] 30))
    clear hb3 B2
    go_wp2_with fail
    go_ret
    exact ⟨rfl, HB.out⟩
  case inr.inr =>
    have HB := Lib.hid ((below_then B2.out hb3).alloc (below_then B2.out hb3).size (.cells #[.slice a3 cj.length c3, .slice a4 cs.length c4] 30))
    clear hb3 B2 r3 r4 hc1 hc2 hcut
    go_wp2_with fail
    go_ret
    exact ⟨rfl, HB.out⟩
  have ba : Below w3.heap.size w3 (w3.alloc (.cells #[.slice none 0 0, .slice none 0 0] 30)) := (Below.refl _ _).alloc (Nat.le_refl _) _
  have b3 := below_then B2.out (below_then hb3 ba)
  have HST : Hid (EndSt w (w3.alloc (.cells #[.slice none 0 0, .slice none 0 0] 30)) N (.slice A N c) (.slice A2 T c2) (.slice (some ⟨gt, 0, none⟩) N N) T) := Lib.hid ⟨js, sup, ps, rs, A, A2, some ⟨gt, 0, none⟩, c, c2, N, rfl, rfl, rfl, hR.keep b3, HN.out, hR2.keep b3, HN2.out, hcap2.1, rp.keep ba, hlp, hcs, hpl, b3⟩
  have hl0 := hN
  clear hb3 rp hlp hcs hpl ba b3 B2
  go_wp2
  go_loopg [0, 1, 6] T (fun g1 v0 v1 v6 wr => ∃ T' : Nat, T' ≤ g1 ∧ Hid (EndSt w wr N v0 v1 v6 T'))
  case atStart => exact ⟨T, Nat.le_refl _, HST⟩
  case round =>
    clear HST
    obtain ⟨T', hg, HS⟩ := hrel
    obtain ⟨js', sup', ps', rs', A', A2', A5', c', c2', c5', e0, e1, e6, r1, r2, r3, r4, r5, r6, r7, r8, r9, r10⟩ := HS.out
    subst e0 e1 e6
    have HR1 := Lib.hid r1
    have HL1 := Lib.hid r2
    have HR3 := Lib.hid r3
    have HL2 := Lib.hid r4
    have HR5 := Lib.hid r6
    have HL5 := Lib.hid r7
    have HCS := Lib.hid r8
    have HPL := Lib.hid r9
    have HBW := Lib.hid r10
    clear r1 r2 r3 r4 r6 r7 r8 r9 r10 HS
    obtain ⟨⟨t1, t2⟩, _, _⟩ := okP_iff.1 (planB_iff.1 HPL.out).1
    rw [HL1.out] at t1
    rw [HL2.out] at t2
    by_cases hT0 : 0 < T'
    case neg =>
      have hTz : ¬ (0 : Int) < (T' : Int) := by omega
      go_wp2_with fail
      go_ret
      exact ⟨rfl, HBW.out⟩
    have hTz : (0 : Int) < (T' : Int) := by omega
    obtain ⟨hD, hNX⟩ := planB_next HPL.out (by rw [HL2.out]; exact hT0)
    have HD := Lib.hid hD
    have HNX := Lib.hid hNX
    have HROW : Hid (∀ k, k < N → (rowAt ps' k).length = T') := Lib.hid (fun k hk => by rw [(planB_iff.1 HPL.out).2.2.1 k (by rw [HL1.out]; exact hk), HL2.out])
    have HLD : Hid ((colOf ps').length = N) := Lib.hid (by rw [colOf_len, HL5.out])
    have HLJ : Hid ((nextJs js' (colOf ps')).length = N) := Lib.hid (by rw [nextJs_len, HL1.out])
    have HLT : Hid (sup'.tail.length = T' - 1) := Lib.hid (by rw [List.length_tail, HL2.out])
    have HLP : Hid ((tailsOf ps').length = N) := Lib.hid (by rw [List.length_map, HL5.out])
    clear hD hNX
    go_wp2_with fail
    refine (laColumn_any A5' c5' N rs' ps' wr HR5.out HCS.out HL5 (by omega)).mono ?_
    rintro e w4 ⟨hb4, hp⟩
    rcases hp with ⟨⟨k, hk, hz⟩, _⟩ | ⟨_, a, d, a2, d2, rs2, rfl, r1, r2, r3⟩
    · exfalso
      have := HROW.out k hk
      omega
    have B4 := Lib.hid hb4
    have HQ1 := Lib.hid r1
    have HQ2 := Lib.hid r2
    have HQ3 := Lib.hid r3
    clear hb4 r1 r2 r3
    go_wp2_with fail
    refine (aAdvance_any A' A2' a c' N c2' T' d N js' sup' (colOf ps') w4 (HR1.out.keep B4.out) HL1 (by omega) (HR3.out.keep B4.out) HL2 (by omega) HQ1.out HLD (by omega) r5).mono ?_
    rintro e w5 ⟨hb5, hp⟩
    rcases hp with ⟨h, _⟩ | ⟨_, b, f, b2, f2, rfl, hf2, r3, r4⟩
    · rw [HD.out] at h; cases h
    have b5 := below_then HBW.out (below_then B4.out hb5)
    have HST : Hid (∀ wz, Below w5.heap.size w5 wz → EndSt w wz N (.slice b N f) (.slice b2 (T' - 1) f2) (.slice a2 N d2) (T' - 1)) := Lib.hid (fun wz hz =>
      ⟨nextJs js' (colOf ps'), sup'.tail, tailsOf ps', rs2, b, b2, a2, f, f2, d2, rfl, rfl, rfl, r3.keep hz, HLJ.out, r4.keep hz, HLT.out, hf2, (HQ2.out.keep hb5).keep hz, HLP.out, HQ3.out, HNX.out, below_then b5 hz⟩)
    have HNR := Lib.hid r3
    have hsub : ((T' : Int) - 1) = ((T' - 1 : Nat) : Int) := by omega
    have hT1z : (((T' - 1 : Nat) : Int) != ((T' : Int) - 1)) = false := by rw [hsub]; simp
    clear hb5 r3 r4 b5 HQ1 HQ2 HQ3 B4 HBW HR1 HR3 HR5 hsub
    go_wp2
    go_loopg [16, 86] N (fun g2 v16 v86 wx => ∃ k : Nat, v86 = .int .i64 k ∧ k ≤ N ∧ N - k ≤ g2 ∧ Hid (Below w5.heap.size w5 wx))
    case atStart => exact ⟨0, by go_num, by omega, by omega, Lib.hid (Below.refl _ _)⟩
    case round =>
      obtain ⟨k, rfl, hk, hg2, HB⟩ := hrel
      by_cases hlt : k < N
      · have hltz : (k : Int) < (N : Int) := by omega
        obtain ⟨bj, oj, j, hbe, hbj, hj, k0, k1, k2, k3, k4⟩ := rdJ_at (HNR.out.keep HB.out) (k := k) (by rw [HLJ.out]; exact hlt)
        have hjk : jAt (nextJs js' (colOf ps')) k = j := by simp [jAt, hj]
        have hov := planB_over HNX.out (i := k) (by rw [HLJ.out]; exact hlt)
        rw [hjk] at hov
        subst hbe
        have HB2 : Hid (Below w5.heap.size w5 (wr.alloc (.cells #[.int .i64 j.frm, .int .i64 j.till, .int .i64 j.energy, .int .i64 j.rate, .int .i64 j.rank] 25))) := Lib.hid (HB.out.alloc HB.out.size _)
        clear hj hjk
        by_cases ht : j.till = 0
        · have he := hov ht
          have htz : (j.till == 0) = true := by simp [ht]
          have hez : (j.energy != 0) = false := by simp [he]
          clear hov ht he
          go_wp2
          go_roundg (N - (k + 1))
          case measure => omega
          case rel => exact ⟨k + 1, by go_num, by omega, by omega, HB2⟩
        · have htz : (j.till == 0) = false := by simp [ht]
          clear hov ht
          go_wp2
          go_roundg (N - (k + 1))
          case measure => omega
          case rel => exact ⟨k + 1, by go_num, by omega, by omega, HB2⟩
      · have hltz : ¬ (k : Int) < (N : Int) := by omega
        go_wp2
        go_roundg (T' - 1)
        case measure => omega
        case rel => exact ⟨T' - 1, Nat.le_refl _, Lib.hid (HST.out _ HB.out)⟩
end Go.Proofs.Ytgfcnkfmgpakkaa
