/-
Several texts in one: RepL, RepM.
-/
import Derived.Test.YtgfcnkfmgpakkaaGRepH
import Derived.Test.YtgfcnkfmgpakkaaGRepF
import Derived.Test.YtgfcnkfmgpakkaaGAdmN
import Derived.Test.YtgfcnkfmgpakkaaGRepM
/-
law29.gives, walked.
-/
namespace Go.Proofs.Ytgfcnkfmgpakkaa
open Go.RowKit
set_option linter.unusedVariables false
set_option linter.unusedSimpArgs false
set_option maxRecDepth 100000 in
set_option maxHeartbeats 8000000 in
theorem lrGives_any (A A5 : Option Addr) (c N c5 M : Nat) (js : List GJob) (want : List Int) (w : World) (hR : Rd 5 encJ w A js) (HN : Hid (js.length = N)) (hR5 : Rd 1 encI w A5 want) (HM : Hid (want.length = M)) (hok : okP js [10] = true) (HWANT : Hid (∀ ord, IsOrd js ord → keptTo js [10] ord ord.length = want)) :
    Calls Try.prog 71 #[.slice A N c, .slice A5 M c5] w fun e w' => e = .returned (.bool true) ∧ Below w.heap.size w w' := by
  have t1 : N ≤ 12 := by have := (okP_iff.1 hok).1.1; rw [HN.out] at this; exact this
  have HOK := Lib.hid hok
  have HR := Lib.hid hR
  have HR5 := Lib.hid hR5
  have a1 : Below w.heap.size w (w.alloc (.cells (([10] : List Int).map (Value.int .i64)).toArray 3)) := (Below.refl _ w).alloc (Nat.le_refl _) _
  have rs := rd_nums w [10]
  clear hok hR hR5
  go_enter Try.func71, Try.ntmps71
  go_wp2_with fail
  refine (rKeep_any A _ c N 1 1 js [10] _ (HR.out.keep a1) HN (by omega) rs (Lib.hid rfl) (by omega)).mono ?_
  rintro e w1 ⟨hb1, hx⟩
  rcases hx with ⟨h, _⟩ | ⟨_, ord, ak, ck, ac, cc, vs, C, ho, rfl, hC, r1, r2, l1, l2, hcap1, hcap2⟩
  · rw [HOK.out] at h
    cases h
  have hk := HWANT.out ord ho
  have HCHK : Hid (chkB js [10] ord want C = true) := Lib.hid (by rw [← hk]; exact chkB_keep HOK.out ho hC)
  have hlen := hC.len
  rw [hk] at r1 l1 hlen ⊢
  rw [HM.out] at l1 hlen ⊢
  rw [ho.len, HN.out] at hlen
  obtain ⟨nc, HNC⟩ : ∃ nc, Hid (C.length = nc) := ⟨_, Lib.hid rfl⟩
  rw [HNC.out] at l2 hlen ⊢
  have B1 := Lib.hid (below_then a1 hb1)
  have HO := Lib.hid ho
  have hsub : (nc : Int) = (N : Int) - (M : Int) := by omega
  have hM12 : M ≤ 12 := by omega
  have hN12 : nc ≤ 12 := by omega
  have HS := Lib.hid hsub
  have HR1 := Lib.hid r1
  have HR2 := Lib.hid r2
  clear hb1 a1 rs hk hC r1 r2 ho hsub hlen
  go_wp2_with fail
  refine (rrInts_any want want ak A5 ck c5 M M w1 HR1.out HM (by omega) (HR5.out.keep B1.out) HM (by omega)).mono ?_
  rintro e w2 ⟨rfl, hb2⟩
  have hsame : sameL want want = true := sameL_iff.2 rfl
  have B2 := Lib.hid (below_then B1.out hb2)
  have a3 : Below w2.heap.size w2 (w2.alloc (.cells (([10] : List Int).map (Value.int .i64)).toArray 3)) := (Below.refl _ w2).alloc (Nat.le_refl _) _
  have HA3 := Lib.hid a3
  have rs3 := Lib.hid (rd_nums w2 [10])
  have heq : ((nc : Int) == (N : Int) - (M : Int)) = true := by rw [beq_iff_eq]; exact HS.out
  have HRC := Lib.hid (HR2.out.keep (hb2.trans (a3.mono hb2.size)))
  have HRK := Lib.hid (HR1.out.keep (hb2.trans (a3.mono hb2.size)))
  clear hb2 a3
  go_wp2_with fail
  refine (rCheck_any A (some ⟨w2.heap.size, 0, none⟩) ak ac c N 1 1 ck M cc nc js [10] want ord vs C _ (HR.out.keep (below_then B2.out HA3.out)) HN (by omega) rs3.out (Lib.hid rfl) (by omega) HRK.out HM ⟨l1, hcap1⟩ HRC.out HNC ⟨l2, hcap2⟩ (Lib.hid (fun _ => HO.out))).mono ?_
  rintro e w3 ⟨rfl, hb3⟩
  have B3 := Lib.hid (below_then (below_then B2.out HA3.out) hb3)
  clear hb3
  go_wp2_with fail
  go_ret
  exact ⟨ret_bool HCHK.out, B3.out⟩
end Go.Proofs.Ytgfcnkfmgpakkaa
/-
law29.head, walked.
-/
namespace Go.Proofs.Ytgfcnkfmgpakkaa
open Go.RowKit
set_option linter.unusedVariables false
set_option linter.unusedSimpArgs false
theorem rdC_one (w : World) : RdC (w.alloc (.cells #[.slice none 0 0, .slice none 0 0] 30)) (some ⟨w.heap.size, 0, none⟩) [⟨none, 0, 0, none, 0, 0⟩] [([], [])] := by
  refine ⟨(new_cut w).rd (by simp) encCut_len (fun k x hx j v hv => ?_), rfl, fun k u x h1 h2 => ?_⟩
  · obtain rfl : k = 0 := by
      rcases k with _ | k
      · rfl
      · simp at hx
    simp at hx
    subst hx
    rcases j with _ | _ | j
    · simpa [encCut] using hv
    · simpa [encCut] using hv
    · simp [encCut] at hv
  · obtain rfl : k = 0 := by
      rcases k with _ | k
      · rfl
      · simp at h1
    simp at h1 h2
    subst h1 h2
    exact ⟨rfl, by decide, Rd.nil, rfl, by decide, Rd.nil⟩
set_option maxRecDepth 100000 in
set_option maxHeartbeats 8000000 in
theorem lrHead_any (w : World) : Calls Try.prog 35 #[] w fun e w' => e = .returned (.bool true) ∧ Below w.heap.size w w' := by
  go_enter Try.func35, Try.ntmps35
  go_wp2_with fail
  refine (lrJob_any 4 1 _).mono ?_
  rintro e w1 ⟨rfl, b1⟩
  go_wp2_with fail
  refine (lrJob_any 5 1 _).mono ?_
  rintro e w2 ⟨rfl, c2⟩
  have b2 := below_then b1 c2
  have a2 : Below w2.heap.size (w2.alloc (.cells (hr1.flatMap encJ).toArray 25)) ((w2.alloc (.cells (hr1.flatMap encJ).toArray 25)).alloc (.cells (([0, 1] : List Int).map (Value.int .i64)).toArray 3)) := (Below.refl _ _).alloc (by simp) _
  have B2 := Lib.hid (below_then b2 (((Below.refl _ w2).alloc (Nat.le_refl _) (.cells (hr1.flatMap encJ).toArray 25)).alloc (by simp) (.cells (([0, 1] : List Int).map (Value.int .i64)).toArray 3)))
  have rj := (rd_jobs w2 hr1).keep ((Below.refl _ (w2.alloc (.cells (hr1.flatMap encJ).toArray 25))).alloc (Nat.le_refl _) (.cells (([0, 1] : List Int).map (Value.int .i64)).toArray 3))
  have rs := rd_nums (w2.alloc (.cells (hr1.flatMap encJ).toArray 25)) [0, 1]
  rw [World.size_alloc] at rs
  clear b1 c2 b2 a2
  go_wp2_with fail
  refine (lrGives_any (some ⟨w2.heap.size, 0, none⟩) (some ⟨w2.heap.size + 1, 0, none⟩) 2 2 2 2 hr1 [0, 1] _ rj (Lib.hid rfl) rs (Lib.hid rfl) hr_ok1 (Lib.hid hr_kept1)).mono ?_
  rintro e w3 ⟨rfl, c3⟩
  have B3 := Lib.hid (below_then B2.out c3)
  clear c3 rj rs B2
  go_wp2_with fail
  refine (lrJob_any 6 2 _).mono ?_
  rintro e w4 ⟨rfl, c4⟩
  go_wp2_with fail
  refine (lrJob_any 5 1 _).mono ?_
  rintro e w5 ⟨rfl, c5⟩
  go_wp2_with fail
  refine (lrJob_any 4 3 _).mono ?_
  rintro e w6 ⟨rfl, c6⟩
  have B6 := Lib.hid (below_then (below_then (below_then (below_then B3.out c4) c5) c6) (((Below.refl _ w6).alloc (Nat.le_refl _) (.cells (hr2.flatMap encJ).toArray 25)).alloc (by simp) (.cells (([1, 2] : List Int).map (Value.int .i64)).toArray 3)))
  have rj := (rd_jobs w6 hr2).keep ((Below.refl _ (w6.alloc (.cells (hr2.flatMap encJ).toArray 25))).alloc (Nat.le_refl _) (.cells (([1, 2] : List Int).map (Value.int .i64)).toArray 3))
  have rs := rd_nums (w6.alloc (.cells (hr2.flatMap encJ).toArray 25)) [1, 2]
  rw [World.size_alloc] at rs
  clear c4 c5 c6 B3
  go_wp2_with fail
  refine (lrGives_any (some ⟨w6.heap.size, 0, none⟩) (some ⟨w6.heap.size + 1, 0, none⟩) 3 3 2 2 hr2 [1, 2] _ rj (Lib.hid rfl) rs (Lib.hid rfl) hr_ok2 (Lib.hid hr_kept2)).mono ?_
  rintro e w7 ⟨rfl, c7⟩
  have B7 := Lib.hid (below_then B6.out c7)
  clear c7 rj rs B6
  go_wp2_with fail
  refine (lrJob_any 11 1 _).mono ?_
  rintro e w8 ⟨rfl, c8⟩
  go_wp2_with fail
  refine (lrJob_any 10 9 _).mono ?_
  rintro e w9 ⟨rfl, c9⟩
  have B9 := Lib.hid (below_then (below_then B7.out c8) c9)
  clear c8 c9 B7
  go_wp2_with fail
  have a9 : Below w9.heap.size w9 (w9.alloc (.cells (hr3.flatMap encJ).toArray 25)) := (Below.refl _ w9).alloc (Nat.le_refl _) _
  have R3 := Lib.hid (rd_jobs w9 hr3)
  refine (lrJob_any 1 0 _).mono ?_
  rintro e w10 ⟨rfl, c10⟩
  have R10 := Lib.hid (R3.out.keep c10)
  have B10 := Lib.hid (below_then (below_then B9.out a9) c10)
  clear c10 a9 B9 R3
  have rj := (rd_jobs w10 [⟨0, 1, 1, 10, 0⟩]).keep ((Below.refl _ (w10.alloc (.cells (([⟨0, 1, 1, 10, 0⟩] : List GJob).flatMap encJ).toArray 25))).alloc (Nat.le_refl _) (.cells (([10] : List Int).map (Value.int .i64)).toArray 3))
  have rs := rd_nums (w10.alloc (.cells (([⟨0, 1, 1, 10, 0⟩] : List GJob).flatMap encJ).toArray 25)) [10]
  rw [World.size_alloc] at rs
  have ba := (((Below.refl _ w10).alloc (Nat.le_refl _) (.cells (([⟨0, 1, 1, 10, 0⟩] : List GJob).flatMap encJ).toArray 25)).alloc (by simp) (.cells (([10] : List Int).map (Value.int .i64)).toArray 3))
  go_wp2_with fail
  refine (rKeep_any (some ⟨w10.heap.size, 0, none⟩) (some ⟨w10.heap.size + 1, 0, none⟩) 1 1 1 1 [⟨0, 1, 1, 10, 0⟩] [10] _ rj (Lib.hid rfl) (by omega) rs (Lib.hid rfl) (by omega)).mono ?_
  rintro e w11 ⟨hb11, hx⟩
  rcases hx with ⟨_, rfl⟩ | ⟨h, _⟩
  case inr => exact absurd h (by decide)
  have c11 := below_then ba hb11
  have B11 := Lib.hid (below_then B10.out c11)
  have R11 := Lib.hid (R10.out.keep c11)
  clear c11 hb11 ba rj rs B10 R10
  have rs := rd_nums w11 [1]
  have a11 : Below w11.heap.size w11 (w11.alloc (.cells (([1] : List Int).map (Value.int .i64)).toArray 3)) := (Below.refl _ _).alloc (Nat.le_refl _) _
  go_wp2_with fail
  refine (lrGives_any (some ⟨w9.heap.size, 0, none⟩) (some ⟨w11.heap.size, 0, none⟩) 2 2 1 1 hr3 [1] _ (R11.out.keep a11) (Lib.hid rfl) rs (Lib.hid rfl) hr_ok3 (Lib.hid hr_kept3)).mono ?_
  rintro e w12 ⟨rfl, c12⟩
  have k12 := below_then a11 c12
  have B12 := Lib.hid (below_then B11.out k12)
  have R12 := Lib.hid (R11.out.keep k12)
  clear k12 c12 a11 rs B11 R11
  go_wp2_with fail
  have s1 : Below w12.heap.size w12 (w12.alloc (.cells (([10] : List Int).map (Value.int .i64)).toArray 3)) := (Below.refl _ _).alloc (Nat.le_refl _) _
  have q1 := rd_nums w12 [10]
  obtain ⟨wa, hwa⟩ : ∃ wa, wa = w12.alloc (.cells (([10] : List Int).map (Value.int .i64)).toArray 3) := ⟨_, rfl⟩
  have e1 : wa.heap.size = w12.heap.size + 1 := by rw [hwa]; simp
  have s2 : Below wa.heap.size wa (wa.alloc (.cells (([0] : List Int).map (Value.int .i64)).toArray 3)) := (Below.refl _ _).alloc (Nat.le_refl _) _
  have q2 := rd_nums wa [0]
  obtain ⟨wb, hwb⟩ : ∃ wb, wb = wa.alloc (.cells (([0] : List Int).map (Value.int .i64)).toArray 3) := ⟨_, rfl⟩
  have e2 : wb.heap.size = w12.heap.size + 1 + 1 := by rw [hwb]; simp [e1]
  have s3 : Below wb.heap.size wb (wb.alloc (.cells #[.slice none 0 0, .slice none 0 0] 30)) := (Below.refl _ _).alloc (Nat.le_refl _) _
  have q3 := rdC_one wb
  rw [← hwa] at s1 q1
  rw [← hwb] at s2 q2
  rw [e1] at q2
  rw [e2] at q3
  have s23 := s2.trans (s3.mono s2.size)
  have sall := below_then s1 s23
  have hno : chkB hr3 [10] [0, 1] [0] [([], [])] = false := by
    cases h : chkB hr3 [10] [0, 1] [0] [([], [])]
    · rfl
    · have h1 := chkB_only hr_ord3 h
      rw [hr_kept3 [0, 1] hr_ord3] at h1
      exact absurd h1 (by decide)
  have hC := rCheck_any (some ⟨w9.heap.size, 0, none⟩) (some ⟨w12.heap.size, 0, none⟩) (some ⟨w12.heap.size + 1, 0, none⟩) (some ⟨w12.heap.size + 1 + 1, 0, none⟩) 2 2 1 1 1 1 1 1 hr3 [10] [0] [0, 1] _ _ _ (R12.out.keep sall) (Lib.hid rfl) (by omega) (q1.keep s23) (Lib.hid rfl) (by omega) (q2.keep s3) (Lib.hid rfl) (by omega) q3 (Lib.hid rfl) (by omega) (Lib.hid (fun _ => hr_ord3))
  rw [hno] at hC
  have B13 := Lib.hid (below_then B12.out sall)
  rw [hwb, hwa] at hC B13
  refine hC.mono ?_
  clear hC q1 q2 q3 s1 s2 s3 s23 sall hno
  rintro e w13 ⟨rfl, c13⟩
  have B14 := Lib.hid (below_then B13.out c13)
  clear c13
  go_wp2_with fail
  go_ret
  exact ⟨rfl, B14.out⟩
end Go.Proofs.Ytgfcnkfmgpakkaa
