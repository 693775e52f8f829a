/-
ReplanAll, walked.
-/
import Derived.Test.YtgfcnkfmgpakkaaCRepW0
namespace Go.Proofs.Ytgfcnkfmgpakkaa
open Go.RowKit
set_option linter.unusedVariables false
set_option linter.unusedSimpArgs false
set_option maxRecDepth 100000 in
set_option maxHeartbeats 8000000 in
theorem walk_ReplanAll (A : Option Addr) (c N : Nat) (js : List GJob) {w : World} (hR : Rd 5 encJ w A js) (HN : Hid (js.length = N)) (hl : N ≤ 9223372036854775807) (_ : ∀ x, x ∈ js → wfJ x)
    (A2 : Option Addr) (c2 T : Nat) (sup : List Int) (hR2 : Rd 1 encI w A2 sup) (HN2 : Hid (sup.length = T)) (hl2 : T ≤ 9223372036854775807) (_ : ∀ x, x ∈ sup → wf64 x) :
    Calls Try.prog 15 #[.slice A N c, .slice A2 T c2] w fun e w' => e = .returned (.bool true) ∧ Below w.heap.size w w' := by
  have HR := Lib.hid hR
  have HR2 := Lib.hid hR2
  clear hR hR2
  go_enter Try.func15, Try.ntmps15
  go_wp2_with fail
  refine (lrHead_any _).mono ?_
  rintro e w1 ⟨rfl, b1⟩
  have B1 := Lib.hid b1
  clear b1
  go_wp2_with fail
  refine (lrUsable_any A A2 c N c2 T js sup w1 (HR.out.keep B1.out) HN hl (HR2.out.keep B1.out) HN2 hl2).mono ?_
  rintro e w2 ⟨rfl, hb2⟩
  have B2 := Lib.hid (below_then B1.out hb2)
  clear hb2 B1
  cases hok : okP js sup
  · clear hok
    go_wp2_with fail
    go_ret
    exact ⟨rfl, B2.out⟩
  have HOK := Lib.hid hok
  clear hok
  go_wp2_with fail
  refine (rKeep_any A A2 c N c2 T js sup w2 (HR.out.keep B2.out) HN hl (HR2.out.keep B2.out) HN2 hl2).mono ?_
  rintro e w3 ⟨hb3, hx⟩
  rcases hx with ⟨h, _⟩ | ⟨_, ord, ak, ck, ac, cc, vs, C, ho, rfl, hC, r1, r2, l1, l2, hcap1, hcap2⟩
  · rw [HOK.out] at h
    cases h
  have B3 := Lib.hid (below_then B2.out hb3)
  obtain ⟨K, HK⟩ : ∃ K, Hid (keptTo js sup ord ord.length = K) := ⟨_, Lib.hid rfl⟩
  obtain ⟨M, HM⟩ : ∃ M, Hid (K.length = M) := ⟨_, Lib.hid rfl⟩
  obtain ⟨nc, HNC⟩ : ∃ nc, Hid (C.length = nc) := ⟨_, Lib.hid rfl⟩
  have hlen := hC.len
  rw [HK.out] at r1 l1 hlen ⊢
  rw [HM.out] at l1 hlen ⊢
  rw [ho.len, HN.out] at hlen
  rw [HNC.out] at l2 hlen ⊢
  have HALL : Hid (Met js sup → M = N ∧ nc = 0) := Lib.hid (fun hm => by
    have h1 := kept_everyone HOK.out ho hm (Nat.le_refl _)
    rw [HK.out, List.take_length] at h1
    have h2 : K.length = N := by rw [h1, ho.len, HN.out]
    have h3 := HM.out
    omega)
  have HLN := Lib.hid hlen
  have HO := Lib.hid ho
  have HRK := Lib.hid r1
  clear hb3 hC ho r1 r2 hlen
  go_upto_region 5 with (fail)
  go_cut [26, 27, 28, 29, 30, 31, 32, 33, 34, 35, 36, 37, 38, 39, 40, 41, 42, 43, 44] (fun v26 v27 v28 v29 v30 v31 v32 v33 v34 v35 v36 v37 v38 v39 v40 v41 v42 v43 v44 wx => v44 = .bool false ∧ Hid (Below w3.heap.size w3 wx))
  case first =>
    go_wp2_with fail
    refine (rpMet_any A A2 c N c2 T js sup w3 (HR.out.keep B3.out) HN hl (HR2.out.keep B3.out) HN2 hl2).mono ?_
    rintro e w4 ⟨b, rfl, hmb, hb4⟩
    have HB4 := Lib.hid hb4
    clear hb4
    cases b
    · clear hmb
      go_wp2_with fail
      try go_step
      go_meet
      exact ⟨rfl, HB4⟩
    · have h := HALL.out (hmb.1 rfl).2
      have hMN : M = N := h.1
      have hn0 : nc = 0 := h.2
      clear h hmb
      subst hMN hn0
      go_wp2_with fail
      try go_step
      go_meet
      exact ⟨rfl, HB4⟩
  case rest =>
    obtain ⟨rfl, hcut⟩ := hcut
    have B5 := Lib.hid (below_then B3.out hcut.out)
    have HRK5 := Lib.hid (HRK.out.keep hcut.out)
    have hN12 : N ≤ 12 := by have := (okP_iff.1 HOK.out).1.1; rw [HN.out] at this; exact this
    have hM12 : M ≤ 12 := by have := HLN.out; omega
    have HKV : Hid (ValidL js.length K) := Lib.hid (by rw [← HK.out]; exact kept_valid HOK.out HO.out.nodup HO.out.valid (Nat.le_refl _))
    clear HRK HALL hcut B3
    go_wp2
    go_loopg [9, 10, 12, 47] N (fun g1 v9 v10 v12 v47 wr => ∃ k : Nat, v47 = .int .i64 k ∧ k ≤ N ∧ N - k ≤ g1 ∧ Hid (Below wc.heap.size wc wr))
    case atStart => exact ⟨0, by go_num, by omega, by omega, Lib.hid (Below.refl _ _)⟩
    case round =>
      obtain ⟨k, rfl, hk, hg1, HB⟩ := hrel
      by_cases hlt : k < N
      · have hltz : (k : Int) < (N : Int) := by omega
        have hHas := Lib.hid (rrHas_any ak ck M K (k : Int) wr (HRK5.out.keep HB.out) HM (by omega))
        cases hh : hasB K (k : Int)
        · have HNI : Hid (¬ (k : Int) ∈ K) := Lib.hid (fun h => by rw [hasB_iff.2 h] at hh; cases hh)
          rw [hh] at hHas
          clear hh
          have al : Below wr.heap.size wr (wr.alloc (.cells #[.int .i64 k] 3)) := (Below.refl _ _).alloc (Nat.le_refl _) _
          obtain ⟨ap, v2, w5, av, aw, HO5, HA5⟩ := app_argR (P := Try.prog) (ty := 23) (c := ck) (m := M) appInfoNum Try.underlying23 rfl (by omega) encI_len1 encI_one (own_lit1 wr (k : Int)) ((HRK5.out.keep HB.out).keep al) HM.out al.size (by simp; unfold maxLen; omega) (by simp; omega)
          have HB5 := Lib.hid (HB.out.trans ((al.trans HA5.out.bel).mono HB.out.size))
          clear al HA5
          go_wp2_with fail
          refine hHas.out.mono ?_
          rintro e w9 ⟨rfl, rfl⟩
          obtain ⟨a9, d9, e9, r9⟩ := HO5.out.rd encI_len1
          obtain ⟨L, hL⟩ : ∃ L, Hid (([(k : Int)] ++ K).length = L) := ⟨_, Lib.hid rfl⟩
          rw [hL.out] at e9
          have hL13 : L ≤ 13 := by rw [← hL.out, List.length_append, HM.out]; simp; omega
          have HMET : Hid (¬ Met (someJ js ([(k : Int)] ++ K)) sup) := Lib.hid (by
            have h := broken_alone (i := (k : Int)) HOK.out HO.out (by omega) (by rw [HN.out]; exact hltz) (by rw [HK.out]; exact HNI.out)
            rw [HK.out] at h
            exact h)
          have HR9 := Lib.hid r9
          subst e9
          clear r9 HO5
          have HVA : Hid (ValidL N ([(k : Int)] ++ K)) := Lib.hid (fun x hx => by
            rcases List.mem_append.1 hx with h | h
            · simp at h; subst h; omega
            · have := HKV.out x h; rw [HN.out] at this; exact this)
          go_wp2_with fail
          go_loopg [12, 59] L (fun g2 v12 v59 wr => ∃ q : Nat, v59 = .int .i64 q ∧ q ≤ L ∧ L - q ≤ g2 ∧ Hid (Below w5.heap.size w5 wr))
          case atStart => exact ⟨0, by go_num, by omega, by omega, Lib.hid (Below.refl _ _)⟩
          case round =>
            obtain ⟨q, rfl, hq, hg2, HBQ⟩ := hrel
            by_cases hql : q < L
            · have hqlz : (q : Int) < (L : Int) := by omega
              obtain ⟨bo, oo, x, hao, hbo, hx, hxo⟩ := (HR9.out.keep HBQ.out).at_ (k := q) (by rw [hL.out]; exact hql)
              subst hao
              have hxo0 : wr.cell? ⟨bo, oo + q, none⟩ = some (.int .i64 x) := by have := hxo 0 _ rfl; simpa using this
              have hxv := HVA.out x (List.mem_of_getElem? hx)
              obtain ⟨hx0, hx1⟩ := hxv
              have z1 : ¬ x < 0 := by omega
              have z2 : ¬ (N : Int) ≤ x := by omega
              have z1d : decide (x < 0) = false := decide_eq_false z1
              have z2d : decide ((N : Int) ≤ x) = false := decide_eq_false z2
              clear hx hxo
              go_wp2_with fail
              go_roundg (L - (q + 1))
              case measure => omega
              case rel => exact ⟨q + 1, by go_num, by omega, by omega, HBQ⟩
            · have hqlz : ¬ (q : Int) < (L : Int) := by omega
              have HBW := Lib.hid (below_then B5.out (HB5.out.trans (HBQ.out.mono HB5.out.size)))
              go_wp2_with fail
              refine (rrSome_any A _ c N d9 L js _ wr (HR.out.keep HBW.out) HN hl (HR9.out.keep HBQ.out) hL (by omega) (Lib.hid (by rw [HN.out]; exact HVA.out))).mono ?_
              rintro e w6 ⟨a6, d6, rfl, r6, hb6⟩
              have HR6 := Lib.hid r6
              have HB6 := Lib.hid (below_then HBW.out hb6)
              have HC6 := Lib.hid (below_then (HB5.out.trans (HBQ.out.mono HB5.out.size)) hb6)
              clear r6 hb6
              go_wp2_with fail
              refine (rpMet_any a6 A2 d6 L c2 T _ sup w6 HR6.out (Lib.hid (by rw [someJ_len]; exact hL.out)) (by omega) (HR2.out.keep HB6.out) HN2 hl2).mono ?_
              rintro e w7 ⟨b, rfl, hmb, hb7⟩
              have HB7 : Hid (Below wc.heap.size wc w7) := Lib.hid (below_then HC6.out hb7)
              cases b
              · clear hmb hb7
                go_wp2_with fail
                go_roundg (N - (k + 1))
                case measure => omega
                case rel => exact ⟨k + 1, by go_num, by omega, by omega, HB7⟩
              · exact absurd (hmb.1 rfl).2 HMET.out
        · rw [hh] at hHas
          clear hh
          go_wp2_with fail
          refine hHas.out.mono ?_
          rintro e w9 ⟨rfl, rfl⟩
          go_wp2
          go_roundg (N - (k + 1))
          case measure => omega
          case rel => exact ⟨k + 1, by go_num, by omega, by omega, HB⟩
      · have hltz : ¬ (k : Int) < (N : Int) := by omega
        have HE := Lib.hid (below_then B5.out HB.out)
        go_wp2
        go_ret
        exact ⟨rfl, HE.out⟩
end Go.Proofs.Ytgfcnkfmgpakkaa
