/-
ReplanMatchesReference, walked.
-/
import Derived.Test.YtgfcnkfmgpakkaaGRepS
import Derived.Test.YtgfcnkfmgpakkaaCRepW6
namespace Go.Proofs.Ytgfcnkfmgpakkaa
open Go.RowKit
set_option linter.unusedVariables false
set_option linter.unusedSimpArgs false
set_option maxRecDepth 100000 in
set_option maxHeartbeats 8000000 in
theorem walk_ReplanMatchesReference (A : Option Addr) (c N : Nat) (js : List GJob) {w : World} (hR : Rd 5 encJ w A js) (HN : Hid (js.length = N)) (hl : N ≤ 9223372036854775807) (_ : ∀ x, x ∈ js → wfJ x)
    (A2 : Option Addr) (c2 T : Nat) (sup : List Int) (hR2 : Rd 1 encI w A2 sup) (HN2 : Hid (sup.length = T)) (hl2 : T ≤ 9223372036854775807) (_ : ∀ x, x ∈ sup → wf64 x)
    (A5 : Option Addr) (c5 M5 : Nat) (kept : List Int) (hR5 : Rd 1 encI w A5 kept) (HN5 : Hid (kept.length = M5)) (hl5 : M5 ≤ 9223372036854775807) (_ : ∀ x, x ∈ kept → wf64 x) (hcp5 : M5 ≤ c5 ∧ c5 ≤ 9223372036854775807)
    (A6 : Option Addr) (c6 Nc : Nat) (vs : List CutV) (C : List (List Int × List Int)) (hR6 : RdC w A6 vs C) (HN6 : Hid (C.length = Nc)) (hl6 : Nc ≤ 9223372036854775807) (hcp6 : Nc ≤ c6 ∧ c6 ≤ 9223372036854775807) :
    Calls Try.prog 11 #[.slice A N c, .slice A2 T c2, .slice A5 M5 c5, .slice A6 Nc c6] w fun e w' => e = .returned (.bool true) ∧ Below w.heap.size w w' := by
  have HR := Lib.hid hR
  have HR2 := Lib.hid hR2
  have HR5 := Lib.hid hR5
  have HR6 := Lib.hid hR6
  clear hR hR2 hR5 hR6
  go_enter Try.func11, Try.ntmps11
  go_wp2_with fail
  refine (lrHead_any _).mono ?_
  rintro e w1 ⟨rfl, b1⟩
  have B1 := Lib.hid b1
  clear b1
  go_wp2_with fail
  refine (rrFew_any A A2 A5 A6 c N c2 T c5 M5 c6 Nc vs C w1 hl hl2 hl5 (HR6.out.keep B1.out) HN6 hl6).mono ?_
  rintro e w2 ⟨b, rfl, hfew, hb2⟩
  have B2 := Lib.hid (below_then B1.out hb2)
  clear hb2 B1
  cases b
  · clear hfew
    go_wp2_with fail
    go_ret
    exact ⟨rfl, B2.out⟩
  obtain ⟨_, hN20, hT30, hM30, hC30⟩ := hfew.1 rfl
  rw [HN6.out] at hC30
  clear hfew
  go_wp2_with fail
  refine (rKeep_any A A2 c N c2 T js sup w2 (HR.out.keep B2.out) HN hl (HR2.out.keep B2.out) HN2 hl2).mono ?_
  rintro e w3 ⟨hb3, hx⟩
  have B3 := Lib.hid (below_then B2.out hb3)
  clear hb3 B2
  rcases hx with ⟨hok, rfl⟩ | ⟨hok, ord, ak, ck, ac, cc, vs2, C2, ho, rfl, hC, r1, r2, l1, l2, hcap1, hcap2⟩
  · have HF : Hid (∀ kk D, chkB js sup [] kk D = false) := Lib.hid (fun kk D => chkB_not (fun h => by rw [hok] at h; cases h.1))
    have HV : Hid (okP js sup = true → IsOrd js []) := Lib.hid (fun h => by rw [hok] at h; cases h)
    have HOKF := Lib.hid hok
    clear hok
    go_wp2_with fail
    refine (rrKeep_any A A2 c N c2 T js sup w3 (HR.out.keep B3.out) HN hl (HR2.out.keep B3.out) HN2 hl2).mono ?_
    rintro e w4 ⟨hb4, hx⟩
    have B4 := Lib.hid (below_then B3.out hb4)
    clear hb4 B3
    rcases hx with ⟨_, rfl⟩ | ⟨h, _⟩
    case inr => rw [HOKF.out] at h; cases h
    go_wp2_with fail
    refine (rrInts_any [] [] none none 0 0 0 0 w4 Rd.nil (Lib.hid rfl) (by omega) Rd.nil (Lib.hid rfl) (by omega)).mono ?_
    rw [sameL_iff.2 rfl]
    rintro e w5 ⟨rfl, hb5⟩
    have B5 := Lib.hid (below_then B4.out hb5)
    clear hb5 B4
    go_wp2_with fail
    refine (rCheck_any A A2 A5 A6 c N c2 T c5 M5 c6 Nc js sup kept [] vs C w5 (HR.out.keep B5.out) HN hl (HR2.out.keep B5.out) HN2 hl2 (HR5.out.keep B5.out) HN5 hcp5 (HR6.out.keep B5.out) HN6 hcp6 HV).mono ?_
    rw [HF.out]
    rintro e w6 ⟨rfl, hb6⟩
    have B6 := Lib.hid (below_then B5.out hb6)
    clear hb6 B5
    go_wp2_with fail
    refine (rrCheck_any A A2 A5 A6 c N c2 T c5 M5 c6 Nc js sup kept [] vs C w6 (HR.out.keep B6.out) HN hl (HR2.out.keep B6.out) HN2 hl2 (HR5.out.keep B6.out) HN5 hcp5 (HR6.out.keep B6.out) HN6 hcp6 HV).mono ?_
    rw [HF.out]
    rintro e w7 ⟨rfl, hb7⟩
    have B7 := Lib.hid (below_then B6.out hb7)
    clear hb7 B6
    go_wp2_with fail
    refine (rCheck_any A A2 none none c N c2 T 0 0 0 0 js sup [] [] [] [] w7 (HR.out.keep B7.out) HN hl (HR2.out.keep B7.out) HN2 hl2 Rd.nil (Lib.hid rfl) (by omega) RdC.nil (Lib.hid rfl) (by omega) HV).mono ?_
    rw [HF.out]
    rintro e w8 ⟨rfl, hb8⟩
    have B8 := Lib.hid (below_then B7.out hb8)
    clear hb8 B7
    go_wp2_with fail
    go_ret
    exact ⟨rfl, B8.out⟩
  have HOK := Lib.hid hok
  have HO := Lib.hid ho
  obtain ⟨K, HK⟩ : ∃ K, Hid (keptTo js sup ord ord.length = K) := ⟨_, Lib.hid rfl⟩
  obtain ⟨M, HM⟩ : ∃ M, Hid (K.length = M) := ⟨_, Lib.hid rfl⟩
  obtain ⟨nc, HNC⟩ : ∃ nc, Hid (C2.length = nc) := ⟨_, Lib.hid rfl⟩
  have hlen := hC.len
  rw [HK.out] at r1 l1 hlen ⊢
  rw [HM.out] at l1 hlen ⊢
  rw [ho.len, HN.out] at hlen
  rw [HNC.out] at l2 hlen ⊢
  have hN12 : N ≤ 12 := by have := (okP_iff.1 HOK.out).1.1; rw [HN.out] at this; exact this
  have hM12 : M ≤ 12 := by omega
  have hnc12 : nc ≤ 12 := by omega
  have HLEN := Lib.hid hlen
  have HRK := Lib.hid r1
  clear hok ho hC r1 r2 l2 hlen
  go_wp2_with fail
  refine (rrKeep_any A A2 c N c2 T js sup w3 (HR.out.keep B3.out) HN hl (HR2.out.keep B3.out) HN2 hl2).mono ?_
  rintro e w4 ⟨hb4, hx⟩
  rcases hx with ⟨h, _⟩ | ⟨_, ord', ak2, ck2, ac2, cc2, vs3, C3, ho2, rfl, hC2, s1, s2, m1, m2, hcap3, hcap4⟩
  · rw [HOK.out] at h
    cases h
  have he := order_unique ho2 HO.out
  subst he
  have B4 := Lib.hid (below_then B3.out hb4)
  have HRK4 := Lib.hid (HRK.out.keep hb4)
  have HCHK : Hid (chkB js sup ord' K C3 = true) := Lib.hid (by rw [← HK.out]; exact chkB_keep HOK.out HO.out hC2)
  have hlen2 := hC2.len
  rw [HK.out] at s1 m1 hlen2 ⊢
  rw [HM.out] at m1 hlen2 ⊢
  rw [ho2.len, HN.out] at hlen2
  have hnn : C3.length = nc := by have := HLEN.out; omega
  rw [hnn] at m2 ⊢
  have HNC3 := Lib.hid hnn
  have HRK2 := Lib.hid s1
  have HRC2 := Lib.hid s2
  have HV : Hid (okP js sup = true → IsOrd js ord') := Lib.hid (fun _ => HO.out)
  clear hb4 ho2 hC2 s1 s2 hlen2 hnn B3 HRK
  go_wp2_with fail
  refine (rrInts_any K K ak ak2 ck ck2 M M w4 HRK4.out HM (by omega) HRK2.out HM (by omega)).mono ?_
  rw [sameL_iff.2 rfl]
  rintro e w5 ⟨rfl, hb5⟩
  have B5 := Lib.hid (below_then B4.out hb5)
  have HRK25 := Lib.hid (HRK2.out.keep hb5)
  have HRC25 := Lib.hid (HRC2.out.keep hb5)
  clear hb5 B4 HRK2 HRC2 HRK4
  go_wp2_with fail
  refine (rCheck_any A A2 A5 A6 c N c2 T c5 M5 c6 Nc js sup kept ord' vs C w5 (HR.out.keep B5.out) HN hl (HR2.out.keep B5.out) HN2 hl2 (HR5.out.keep B5.out) HN5 hcp5 (HR6.out.keep B5.out) HN6 hcp6 HV).mono ?_
  obtain ⟨cb, hcb⟩ : ∃ cb, chkB js sup ord' kept C = cb := ⟨_, rfl⟩
  have HCB := Lib.hid hcb
  rw [hcb]
  clear hcb
  rintro e w6 ⟨rfl, hb6⟩
  have B6 := Lib.hid (below_then B5.out hb6)
  have HRK26 := Lib.hid (HRK25.out.keep hb6)
  have HRC26 := Lib.hid (HRC25.out.keep hb6)
  clear hb6 B5 HRK25 HRC25
  go_wp2_with fail
  refine (rrCheck_any A A2 A5 A6 c N c2 T c5 M5 c6 Nc js sup kept ord' vs C w6 (HR.out.keep B6.out) HN hl (HR2.out.keep B6.out) HN2 hl2 (HR5.out.keep B6.out) HN5 hcp5 (HR6.out.keep B6.out) HN6 hcp6 HV).mono ?_
  rw [HCB.out]
  rintro e w7 ⟨rfl, hb7⟩
  have B7 := Lib.hid (below_then B6.out hb7)
  have HRK27 := Lib.hid (HRK26.out.keep hb7)
  have HRC27 := Lib.hid (HRC26.out.keep hb7)
  clear hb7 B6 HRK26 HRC26
  cases cb
  all_goals go_wp2_with fail
  all_goals
    refine (rCheck_any A A2 ak2 ac2 c N c2 T ck2 M cc2 nc js sup K ord' vs3 C3 w7 (HR.out.keep B7.out) HN hl (HR2.out.keep B7.out) HN2 hl2 HRK27.out HM ⟨m1, hcap3⟩ HRC27.out HNC3 ⟨m2, hcap4⟩ HV).mono ?_
    rw [HCHK.out]
    rintro e w8 ⟨rfl, hb8⟩
    have B8 := Lib.hid (below_then B7.out hb8)
    clear hb8 B7
  all_goals go_wp2_with fail
  all_goals
    go_ret
    exact ⟨rfl, B8.out⟩
end Go.Proofs.Ytgfcnkfmgpakkaa
