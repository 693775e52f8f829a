/-
ReplanOnly, walked.
-/
import Derived.Test.YtgfcnkfmgpakkaaCRepW6
namespace Go.Proofs.Ytgfcnkfmgpakkaa
open Go.RowKit
set_option linter.unusedVariables false
set_option linter.unusedSimpArgs false
set_option maxRecDepth 100000 in
set_option maxHeartbeats 8000000 in
theorem walk_ReplanOnly (A : Option Addr) (c N : Nat) (js : List GJob) {w : World} (hR : Rd 5 encJ w A js) (HN : Hid (js.length = N)) (hl : N ≤ 9223372036854775807) (_ : ∀ x, x ∈ js → wfJ x)
    (A2 : Option Addr) (c2 T : Nat) (sup : List Int) (hR2 : Rd 1 encI w A2 sup) (HN2 : Hid (sup.length = T)) (hl2 : T ≤ 9223372036854775807) (_ : ∀ x, x ∈ sup → wf64 x)
    (A5 : Option Addr) (c5 M5 : Nat) (kept : List Int) (hR5 : Rd 1 encI w A5 kept) (HN5 : Hid (kept.length = M5)) (hl5 : M5 ≤ 9223372036854775807) (_ : ∀ x, x ∈ kept → wf64 x) (hcp5 : M5 ≤ c5 ∧ c5 ≤ 9223372036854775807)
    (A6 : Option Addr) (c6 Nc : Nat) (vs : List CutV) (C : List (List Int × List Int)) (hR6 : RdC w A6 vs C) (HN6 : Hid (C.length = Nc)) (hl6 : Nc ≤ 9223372036854775807) (hcp6 : Nc ≤ c6 ∧ c6 ≤ 9223372036854775807) (s : Int) (ws : (Lit.int .u8 s).wf = true) :
    Calls Try.prog 13 #[.slice A N c, .slice A2 T c2, .slice A5 M5 c5, .slice A6 Nc c6, .int .u8 s] w fun e w' => e = .returned (.bool true) ∧ Below w.heap.size w w' := by
  have bs := u8_bd ws
  have HR := Lib.hid hR
  have HR2 := Lib.hid hR2
  have HR5 := Lib.hid hR5
  have HR6 := Lib.hid hR6
  clear hR hR2 hR5 hR6
  go_enter Try.func13, Try.ntmps13
  go_wp2_with fail
  refine (lrHead_any _).mono ?_
  rintro e w1 ⟨rfl, b1⟩
  have B1 := Lib.hid b1
  clear b1
  go_wp2_with fail
  refine (rrFew_any A A2 A5 A6 c N c2 T c5 M5 c6 Nc vs C w1 hl hl2 hl5 (HR6.out.keep B1.out) HN6 hl6).mono ?_
  rintro e w2 ⟨b, rfl, hfew, hb2⟩
  have B2 := Lib.hid (below_then B1.out hb2)
  clear hb2 B1
  cases b
  · clear hfew
    go_wp2_with fail
    go_ret
    exact ⟨rfl, B2.out⟩
  obtain ⟨_, hN20, hT30, hM30, hC30⟩ := hfew.1 rfl
  rw [HN6.out] at hC30
  clear hfew
  go_wp2_with fail
  refine (rKeep_any A A2 c N c2 T js sup w2 (HR.out.keep B2.out) HN hl (HR2.out.keep B2.out) HN2 hl2).mono ?_
  rintro e w3 ⟨hb3, hx⟩
  have B3 := Lib.hid (below_then B2.out hb3)
  clear hb3 B2
  rcases hx with ⟨hok, rfl⟩ | ⟨hok, ord, ak, ck, ac, cc, vs2, C2, ho, rfl, hC, r1, r2, l1, l2, hcap1, hcap2⟩
  · have HF : Hid (chkB js sup [] kept C = false) := Lib.hid (chkB_not (fun h => by rw [hok] at h; cases h.1))
    have HV : Hid (okP js sup = true → IsOrd js []) := Lib.hid (fun h => by rw [hok] at h; cases h)
    clear hok
    go_wp2_with fail
    refine (rCheck_any A A2 A5 A6 c N c2 T c5 M5 c6 Nc js sup kept [] vs C w3 (HR.out.keep B3.out) HN hl (HR2.out.keep B3.out) HN2 hl2 (HR5.out.keep B3.out) HN5 hcp5 (HR6.out.keep B3.out) HN6 hcp6 HV).mono ?_
    rw [HF.out]
    rintro e w4 ⟨rfl, hb4⟩
    have B4 := Lib.hid (below_then B3.out hb4)
    clear hb4
    go_wp2_with fail
    go_ret
    exact ⟨rfl, B4.out⟩
  have HOK := Lib.hid hok
  have HO := Lib.hid ho
  have HC := Lib.hid hC
  obtain ⟨K, HK⟩ : ∃ K, Hid (keptTo js sup ord ord.length = K) := ⟨_, Lib.hid rfl⟩
  obtain ⟨M, HM⟩ : ∃ M, Hid (K.length = M) := ⟨_, Lib.hid rfl⟩
  obtain ⟨nc, HNC⟩ : ∃ nc, Hid (C2.length = nc) := ⟨_, Lib.hid rfl⟩
  have hlen := hC.len
  rw [HK.out] at r1 l1 hlen ⊢
  rw [HM.out] at l1 hlen ⊢
  rw [ho.len, HN.out] at hlen
  rw [HNC.out] at l2 hlen ⊢
  have hN12 : N ≤ 12 := by have := (okP_iff.1 HOK.out).1.1; rw [HN.out] at this; exact this
  have hM12 : M ≤ 12 := by omega
  have hnc12 : nc ≤ 12 := by omega
  have HRK := Lib.hid r1
  have HRC := Lib.hid r2
  have HV : Hid (okP js sup = true → IsOrd js ord) := Lib.hid (fun _ => HO.out)
  clear hok ho hC r1 r2 hlen
  go_upto_region 5 with (fail)
  go_cut [32, 33, 34, 35, 36, 37, 38, 39, 40, 41, 42, 43, 44, 45, 46] (fun v32 v33 v34 v35 v36 v37 v38 v39 v40 v41 v42 v43 v44 v45 v46 wx => v46 = .bool false ∧ Hid (Below w3.heap.size w3 wx))
  case first =>
    have hcon := rCheck_any A A2 A5 A6 c N c2 T c5 M5 c6 Nc js sup kept ord vs C w3 (HR.out.keep B3.out) HN hl (HR2.out.keep B3.out) HN2 hl2 (HR5.out.keep B3.out) HN5 hcp5 (HR6.out.keep B3.out) HN6 hcp6 HV
    obtain ⟨cb, hcb⟩ : ∃ cb, chkB js sup ord kept C = cb := ⟨_, rfl⟩
    rw [hcb] at hcon
    have HCB := Lib.hid hcb
    have HCON := Lib.hid hcon
    clear hcb hcon
    cases cb
    · go_wp2_with fail
      refine HCON.out.mono ?_
      rintro e w4 ⟨rfl, hb4⟩
      have HB4 := Lib.hid hb4
      clear hb4
      go_wp2_with fail
      try go_step
      go_meet
      exact ⟨rfl, HB4⟩
    · have HSAME : Hid (sameL K kept = true) := Lib.hid (sameL_iff.2 (by rw [← HK.out]; exact (chkB_only HO.out HCB.out).symm))
      go_wp2_with fail
      refine HCON.out.mono ?_
      rintro e w4 ⟨rfl, hb4⟩
      have HB4 := Lib.hid hb4
      clear hb4
      go_wp2_with fail
      refine (rrInts_any K kept ak A5 ck c5 M M5 w4 (HRK.out.keep HB4.out) HM (by omega) (HR5.out.keep (below_then B3.out HB4.out)) HN5 (by omega)).mono ?_
      rw [HSAME.out]
      rintro e w5 ⟨rfl, hb5⟩
      have HB5 := Lib.hid (below_then HB4.out hb5)
      clear hb5
      go_wp2_with fail
      try go_step
      go_meet
      exact ⟨rfl, HB5⟩
  case rest =>
    obtain ⟨rfl, hcut⟩ := hcut
    have B5 := Lib.hid (below_then B3.out hcut.out)
    have HRK5 := Lib.hid (HRK.out.keep hcut.out)
    have HRC5 := Lib.hid (HRC.out.keep hcut.out)
    clear hcut HRK HRC B3
    by_cases hM0 : M = 0
    · have hz : ((M : Int) == 0) = true := by simp [hM0]
      clear hM0
      go_wp2_with fail
      go_ret
      exact ⟨rfl, B5.out⟩
    have hz : ((M : Int) == 0) = false := by simp; omega
    obtain ⟨q, hq⟩ : ∃ q : Nat, q = s.toNat % M := ⟨_, rfl⟩
    have hqM : q < M := by rw [hq]; exact Nat.mod_lt _ (by omega)
    have hrem : s.tmod (M : Int) = (q : Int) := by
      rw [Int.tmod_eq_emod_of_nonneg (by omega), hq, Int.natCast_emod, Int.toNat_of_nonneg (by omega)]
    have hMz : ¬ (M : Int) = 0 := by omega
    obtain ⟨bk, ok, x0, hak, hbk, hx0, _⟩ := HRK5.out.at_ (k := 0) (by rw [HM.out]; omega)
    subst hak
    clear hq hx0
    go_upto_region 10 with (fail)
    obtain ⟨W, HW⟩ : ∃ W, Hid (W = wc) := ⟨_, Lib.hid rfl⟩
    rw [← HW.out] at B5 HRK5 HRC5 hbk ⊢
    obtain ⟨ad, had⟩ : ∃ ad : Option Addr, ad = if ck = q + 1 then some ⟨bk, ok, none⟩ else some ⟨bk, ok + (q + 1), none⟩ := ⟨_, rfl⟩
    have bb : Below W.heap.size W (W.alloc (.cells #[] 3)).drew := ((Below.refl _ _).alloc (Nat.le_refl _) _).drew
    have ow : OwnN (W.alloc (.cells #[] 3)).drew W.heap.size (.slice (some ⟨W.heap.size, 0, none⟩) 0 0) [] := own_lit0 W
    have lt1 : (K.take q).length = q := by rw [List.length_take, HM.out]; omega
    have lt2 : (K.drop (q + 1)).length = M - (q + 1) := by rw [List.length_drop, HM.out]
    obtain ⟨p1, v1, W1, p2, p3, o1, s1⟩ := app_argR (P := Try.prog) (ty := 23) (c := ck) (m := q) appInfoNum Try.underlying23 rfl (by omega) encI_len1 encI_one ow (rd_take (HRK5.out.keep bb) q) lt1 bb.size (by simp; unfold maxLen; omega) (by simp; omega)
    have hb1 : Below W.heap.size W W1 := bb.trans s1.out.bel
    have rd2 : Rd 1 encI W1 ad (K.drop (q + 1)) := by
      rcases Nat.eq_zero_or_pos (K.drop (q + 1)).length with h | h
      · intro h'; omega
      · rw [had, if_neg (by omega)]
        exact rd_drop (HRK5.out.keep hb1) (q + 1)
    obtain ⟨p4, v2, W2, p5, p6, o2, s2⟩ := app_argR (P := Try.prog) (ty := 23) (c := ck - (q + 1)) (m := M - (q + 1)) appInfoNum Try.underlying23 rfl (by omega) encI_len1 encI_one o1.out rd2 lt2 hb1.size (by rw [List.nil_append, lt1]; unfold maxLen; omega) (by rw [List.nil_append, lt1]; omega)
    have hb2 : Below W.heap.size W W2 := hb1.trans s2.out.bel
    have Had := Lib.hid had
    have HO2 := Lib.hid o2.out
    clear had rd2 o1 o2 s1 s2 ow
    have hqz : (q : Int) ≤ (ck : Int) := by omega
    have hqz1 : (q : Int) + 1 ≤ (M : Int) := by omega
    have hqz0 : (0 : Int) ≤ (q : Int) + 1 := by omega
    refine region_z (S := fun w' => Below W.heap.size W w') [10] (by kernel_rfl) (Below.refl _ _).drew (fun hHeld => ?_)
    refine wpAnyZ_take (i := 1) (v := .slice (some ⟨bk, ok, none⟩) M ck) [10] rfl (by kernel_rfl) (by kernel_rfl) (by kernel_rfl) (by kernel_rfl) (fun _ _ _ h => h) (Or.inl ⟨by rfl, fun w' hSw => ?_⟩) hHeld ?_
    · clear hHeld
      go_simp
    simp only [Act.put, List.setIfInBounds_toArray, List.set_cons_zero, List.set_cons_succ]
    refine wpAnyZ_take (i := 2) (v := .int .i64 q) [10] rfl (by kernel_rfl) (by kernel_rfl) (by kernel_rfl) (by kernel_rfl) (fun _ _ _ h => h) (Or.inl ⟨by rfl, fun w' hSw => ?_⟩) hHeld ?_
    · clear hHeld
      go_simp
    simp only [Act.put, List.setIfInBounds_toArray, List.set_cons_zero, List.set_cons_succ]
    refine wpAnyZ_take (i := 3) (v := .slice (some ⟨bk, ok, none⟩) q ck) [10] rfl (by kernel_rfl) (by kernel_rfl) (by kernel_rfl) (by kernel_rfl) (fun _ _ _ h => h) (Or.inl ⟨by rfl, fun w' hSw => ?_⟩) hHeld ?_
    · clear hHeld
      go_simp
    simp only [Act.put, List.setIfInBounds_toArray, List.set_cons_zero, List.set_cons_succ]
    refine wpAnyZ_take (i := 5) (v := .slice (some ⟨bk, ok, none⟩) M ck) [10] rfl (by kernel_rfl) (by kernel_rfl) (by kernel_rfl) (by kernel_rfl) (fun _ _ _ h => h) (Or.inl ⟨by rfl, fun w' hSw => ?_⟩) hHeld ?_
    · clear hHeld
      go_simp
    simp only [Act.put, List.setIfInBounds_toArray, List.set_cons_zero, List.set_cons_succ]
    refine wpAnyZ_take (i := 6) (v := .int .i64 q) [10] rfl (by kernel_rfl) (by kernel_rfl) (by kernel_rfl) (by kernel_rfl) (fun _ _ _ h => h) (Or.inl ⟨by rfl, fun w' hSw => ?_⟩) hHeld ?_
    · clear hHeld
      go_simp
    simp only [Act.put, List.setIfInBounds_toArray, List.set_cons_zero, List.set_cons_succ]
    refine wpAnyZ_take (i := 7) (v := .int .i64 ((q : Int) + 1)) [10] rfl (by kernel_rfl) (by kernel_rfl) (by kernel_rfl) (by kernel_rfl) (fun _ _ _ h => h) (Or.inl ⟨by rfl, fun w' hSw => ?_⟩) hHeld ?_
    · clear hHeld
      go_simp
      exact wrap_fit (by omega) (by omega)
    simp only [Act.put, List.setIfInBounds_toArray, List.set_cons_zero, List.set_cons_succ]
    refine wpAnyZ_take (i := 8) (v := .slice ad (M - (q + 1)) (ck - (q + 1))) [10] rfl (by kernel_rfl) (by kernel_rfl) (by kernel_rfl) (by kernel_rfl) (fun _ _ _ h => h) (Or.inl ⟨by rfl, fun w' hSw => ?_⟩) hHeld ?_
    · clear hHeld
      go_simp
      rw [← Had.out]
    simp only [Act.put, List.setIfInBounds_toArray, List.set_cons_zero, List.set_cons_succ]
    refine wpAnyZ_one (i := 0) (by kernel_rfl) rfl (fun K' hK => ?_)
    go_simp
    refine hK.out _ _ ?_ (fun hHeld => ?_)
    · exact hHeld.alloc hHeld.size _
    clear hK K'
    try simp only [Act.put, List.setIfInBounds_toArray, List.set_cons_zero, List.set_cons_succ]
    refine wpAnyZ_one (i := 4) (by kernel_rfl) rfl (fun K' hK => ?_)
    rw [if_pos (by rfl)]
    refine append_go rfl rfl p1 p2 p3 ?_
    refine hK.out _ _ ?_ (fun hHeld => ?_)
    · exact hb1
    clear hK K'
    try simp only [Act.put, List.setIfInBounds_toArray, List.set_cons_zero, List.set_cons_succ]
    refine wpAnyZ_one (i := 9) (by kernel_rfl) rfl (fun K' hK => ?_)
    rw [if_pos (by rfl)]
    refine append_go rfl rfl p4 p5 p6 ?_
    refine hK.out _ _ ?_ (fun hHeld => ?_)
    · exact hb2
    clear hK K'
    try simp only [Act.put, List.setIfInBounds_toArray, List.set_cons_zero, List.set_cons_succ]
    refine wpAnyZ_last (i := 10) (by kernel_rfl) rfl (by kernel_rfl) (fun K' hK => ?_)
    go_simp
    refine hK.out _ _ ?_
    clear hK K'
    try simp only [Act.put, List.setIfInBounds_toArray, List.set_cons_zero, List.set_cons_succ]
    refine wpAnyZ_done (by kernel_rfl) ?_ _
    clear hHeld
    have ho2 := HO2.out
    rw [List.nil_append] at ho2
    obtain ⟨fw, hfw⟩ : ∃ fw, fw = K.take q ++ K.drop (q + 1) := ⟨_, rfl⟩
    rw [← hfw] at ho2
    have hfl : fw.length = M - 1 := by rw [hfw, List.length_append, lt1, lt2]; omega
    obtain ⟨F, hF⟩ : ∃ F, F = M - 1 := ⟨_, rfl⟩
    rw [← hF] at hfl
    obtain ⟨af, cf, ef, rf⟩ := ho2.rd encI_len1
    rw [hfl] at ef
    subst ef
    have hcf := ho2.len_le' hfl
    have hcf2 := ho2.cap_le
    have HFL := Lib.hid hfl
    have HFN : Hid (∀ D : List (List Int × List Int), chkB js sup ord fw D = false) := Lib.hid (fun D => by
      cases h : chkB js sup ord fw D
      · rfl
      · have := chkB_only HO.out h
        rw [HK.out] at this
        have h2 := congrArg List.length this
        rw [hfl, HM.out] at h2
        omega)
    have HRF := Lib.hid rf
    have B6 := Lib.hid (below_then B5.out hb2)
    have HRC6 := Lib.hid (HRC5.out.keep hb2)
    have hF12 : F ≤ 12 := by omega
    clear ho2 HO2 hfw hfl hF rf lt1 lt2 p1 p2 p3 p4 p5 p6 hb1 hb2 bb Had HRK5 HRC5 hHeld
    go_step
    go_wp2_with fail
    refine (rCheck_any A A2 af ac c N c2 T cf F cc nc js sup fw ord vs2 C2 W2 (HR.out.keep B6.out) HN hl (HR2.out.keep B6.out) HN2 hl2 HRF.out HFL ⟨hcf, hcf2⟩ HRC6.out HNC ⟨l2, hcap2⟩ HV).mono ?_
    rw [HFN.out]
    rintro e w7 ⟨rfl, hb7⟩
    have B7 := Lib.hid (below_then B6.out hb7)
    have HRC7 := HRC6.out.keep hb7
    have HRF7 := Lib.hid (HRF.out.keep hb7)
    have al : Below w7.heap.size w7 (w7.alloc (.cells #[] 30)) := (Below.refl _ _).alloc (Nat.le_refl _) _
    obtain ⟨p1, v3, W3, p2, p3, o1, s1⟩ := app_argR (P := Try.prog) (ty := 51) (c := cc) (m := nc) appInfoCut Try.underlying51 rfl (by omega) encCut_len encCut_one (ownC_lit0 w7) (HRC7.top.keep al) (by rw [HRC7.len]; exact HNC.out) al.size (by simp; unfold maxLen; omega) (by simp; omega)
    have hb3 : Below w7.heap.size w7 W3 := al.trans s1.out.bel
    have hvl : ([] ++ vs2).length = nc := by rw [List.nil_append, HRC7.len]; exact HNC.out
    obtain ⟨p4, v4, W4, p5, p6, o2, s2⟩ := app_lit (P := Try.prog) (ty := 51) (m := 1) (c := 1) (ys := [cut0]) (lit := #[.slice none 0 0, .slice none 0 0]) appInfoCut Try.underlying51 rfl (by omega) encCut_len encCut_one o1.out hb3.size rfl rfl (by rw [hvl]; omega) (by omega)
    have hb4 : Below w7.heap.size w7 W4 := hb3.trans s2.out.bel
    obtain ⟨a4, d4, e4, hc4, r4⟩ := o2.out.rdC encCut_len
    have hd4 := o2.out.cap_le'
    have HR4 := Lib.hid (HRC7.snoc0 hb4 (by rw [List.nil_append] at r4; exact r4))
    have hl4 : ([] ++ vs2 ++ [cut0]).length = nc + 1 := by rw [List.length_append, hvl]; rfl
    rw [hl4] at e4 hc4
    have hd5 := hd4 a4 _ d4 e4
    subst e4
    have HN4 : Hid ((C2 ++ [([], [])]).length = nc + 1) := Lib.hid (by rw [List.length_append, HNC.out]; rfl)
    have B8 := Lib.hid (below_then B7.out hb4)
    have HRF8 := Lib.hid (HRF7.out.keep hb4)
    clear o1 o2 s1 s2 hvl r4 hl4 hd4 HRC7 al hb3 hb4
    go_wp2_with fail
    refine (rCheck_any A A2 af a4 c N c2 T cf F d4 (nc + 1) js sup fw ord _ _ W4 (HR.out.keep B8.out) HN hl (HR2.out.keep B8.out) HN2 hl2 HRF8.out HFL ⟨hcf, hcf2⟩ HR4.out HN4 ⟨hc4, hd5⟩ HV).mono ?_
    rw [HFN.out]
    rintro e w8 ⟨rfl, hb8⟩
    have B9 := Lib.hid (below_then B8.out hb8)
    clear hb8
    go_wp2_with fail
    go_ret
    exact ⟨rfl, B9.out⟩
end Go.Proofs.Ytgfcnkfmgpakkaa
