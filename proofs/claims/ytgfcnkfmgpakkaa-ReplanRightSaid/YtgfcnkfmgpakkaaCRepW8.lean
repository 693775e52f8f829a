/-
ReplanRight, walked.
-/
import Derived.Test.YtgfcnkfmgpakkaaCRepW6
namespace Go.Proofs.Ytgfcnkfmgpakkaa
open Go.RowKit
set_option linter.unusedVariables false
set_option linter.unusedSimpArgs false
theorem fAt_some {l : List Int} {k : Nat} {x : Int} (h : l[k]? = some x) : fAt l k = x := by unfold fAt; rw [h]; rfl
set_option maxRecDepth 100000 in
set_option maxHeartbeats 8000000 in
theorem walk_ReplanRight (A : Option Addr) (c N : Nat) (js : List GJob) {w : World} (hR : Rd 5 encJ w A js) (HN : Hid (js.length = N)) (hl : N ≤ 9223372036854775807) (_ : ∀ x, x ∈ js → wfJ x)
    (A2 : Option Addr) (c2 T : Nat) (sup : List Int) (hR2 : Rd 1 encI w A2 sup) (HN2 : Hid (sup.length = T)) (hl2 : T ≤ 9223372036854775807) (_ : ∀ x, x ∈ sup → wf64 x) :
    Calls Try.prog 12 #[.slice A N c, .slice A2 T c2] w fun e w' => e = .returned (.bool true) ∧ Below w.heap.size w w' := by
  have HR := Lib.hid hR
  have HR2 := Lib.hid hR2
  clear hR hR2
  go_enter Try.func12, Try.ntmps12
  go_wp2_with fail
  refine (lrHead_any _).mono ?_
  rintro e w1 ⟨rfl, b1⟩
  have B1 := Lib.hid b1
  clear b1
  go_wp2_with fail
  refine (lrUsable_any A A2 c N c2 T js sup w1 (HR.out.keep B1.out) HN hl (HR2.out.keep B1.out) HN2 hl2).mono ?_
  rintro e w2 ⟨rfl, hb2⟩
  have B2 := Lib.hid (below_then B1.out hb2)
  clear hb2 B1
  cases hok : okP js sup
  · clear hok
    go_wp2_with fail
    go_ret
    exact ⟨rfl, B2.out⟩
  have HOK := Lib.hid hok
  clear hok
  go_wp2_with fail
  refine (rKeep_any A A2 c N c2 T js sup w2 (HR.out.keep B2.out) HN hl (HR2.out.keep B2.out) HN2 hl2).mono ?_
  rintro e w3 ⟨hb3, hx⟩
  rcases hx with ⟨h, _⟩ | ⟨_, ord, ak, ck, ac, cc, vs, C, ho, rfl, hC, r1, r2, l1, l2, hcap1, hcap2⟩
  · rw [HOK.out] at h
    cases h
  have B3 := Lib.hid (below_then B2.out hb3)
  obtain ⟨K, HK⟩ : ∃ K, Hid (keptTo js sup ord ord.length = K) := ⟨_, Lib.hid rfl⟩
  obtain ⟨M, HM⟩ : ∃ M, Hid (K.length = M) := ⟨_, Lib.hid rfl⟩
  rw [HK.out] at r1 l1 ⊢
  rw [HM.out] at l1 ⊢
  have hN12 : N ≤ 12 := by have := (okP_iff.1 HOK.out).1.1; rw [HN.out] at this; exact this
  have hM12 : M ≤ 12 := by
    have h := (kept_all HOK.out ho.nodup ho.valid ord.length (Nat.le_refl _)).len
    rw [HK.out, HM.out, ho.len, HN.out] at h
    omega
  have HO := Lib.hid ho
  have HRK := Lib.hid r1
  obtain ⟨nc, HNC⟩ : ∃ nc, Hid (C.length = nc) := ⟨_, Lib.hid rfl⟩
  have hlen := hC.len
  rw [HK.out, HM.out, ho.len, HN.out, HNC.out] at hlen
  rw [HNC.out] at l2 ⊢
  have HC := Lib.hid hC
  have HRC := Lib.hid r2
  have HCHK : Hid (chkB js sup ord K C = true) := Lib.hid (by rw [← HK.out]; exact chkB_keep HOK.out HO.out HC.out)
  have hsum : (M : Int) + (nc : Int) = (N : Int) := by omega
  have hnez : ((M : Int) + (nc : Int) != (N : Int)) = false := by simp; omega
  have HV : Hid (okP js sup = true → IsOrd js ord) := Lib.hid (fun _ => HO.out)
  have HLEN := Lib.hid hlen
  have hnc12 : nc ≤ 12 := by omega
  clear hb3 hC ho r1 r2 hlen
  go_wp2_with fail
  refine (rCheck_any A A2 ak ac c N c2 T ck M cc nc js sup K ord vs C w3 (HR.out.keep B3.out) HN hl (HR2.out.keep B3.out) HN2 hl2 HRK.out HM ⟨l1, hcap1⟩ HRC.out HNC ⟨l2, hcap2⟩ HV).mono ?_
  rw [HCHK.out]
  rintro e w4 ⟨rfl, hb4⟩
  have B4 := Lib.hid (below_then B3.out hb4)
  have HRK4 := Lib.hid (HRK.out.keep hb4)
  have HRC4 := Lib.hid (HRC.out.keep hb4)
  clear hb4 HRK HRC hsum hnez B3
  go_wp2_with fail
  refine (rrOrder_any A c N js sup w4 (HR.out.keep B4.out) HN HOK.out).mono ?_
  rintro e w5 ⟨a8, d8, ord', rfl, r8, ho', hb5⟩
  have he := order_unique ho' HO.out
  subst he
  have HR8 := Lib.hid r8
  have B5 := Lib.hid (below_then B4.out hb5)
  have HRK5 := Lib.hid (HRK4.out.keep hb5)
  have HRC5 := Lib.hid (HRC4.out.keep hb5)
  have HLO : Hid (ord'.length = N) := Lib.hid (by rw [ho'.len, HN.out])
  have HKA := Lib.hid (fun (k : Nat) (hk : k ≤ N) => kept_all HOK.out ho'.nodup ho'.valid k (by rw [HLO.out]; exact hk))
  have HKP := Lib.hid (fun (k : Nat) (hk : k ≤ N) => show keptTo js sup ord' k <+: K by rw [← HK.out]; exact kept_prefix (by rw [HLO.out]; exact hk))
  clear r8 hb5 ho' HRK4 HRC4 B4
  go_wp2_with fail
  go_loopg [9, 10, 11, 13, 14, 16, 56] N (fun g1 v9 v10 v11 v13 v14 v16 v56 wr => ∃ (k a b : Nat), v56 = .int .i64 k ∧ v9 = .int .i64 a ∧ v10 = .int .i64 b ∧ k ≤ N ∧ N - k ≤ g1 ∧ Hid (a + b = k) ∧ a ≤ M ∧ Hid ((keptTo js sup ord' k).length = a) ∧ Hid (OwnJ wr w5.heap.size v11 (someJ js (keptTo js sup ord' k))) ∧ Hid (Below w5.heap.size w5 wr))
  case atStart => exact ⟨0, 0, 0, by go_num, by go_num, by go_num, by omega, by omega, Lib.hid (by omega), by omega, Lib.hid rfl, Lib.hid (OwnR.nil _ _), Lib.hid (Below.refl _ _)⟩
  case round =>
    obtain ⟨k, a, b, rfl, rfl, rfl, hk, hg1, HAB, haM, HKL, HX, HB⟩ := hrel
    by_cases hlt : k < N
    · have hltz : (k : Int) < (N : Int) := by omega
      obtain ⟨bo, oo, i, hao, hbo0, hi, hio⟩ := (HR8.out.keep HB.out).at_ (k := k) (by rw [HLO.out]; exact hlt)
      subst hao
      have hio0 : wr.cell? ⟨bo, oo + k, none⟩ = some (.int .i64 i) := by have := hio 0 _ rfl; simpa using this
      have HI := Lib.hid hi
      have hvi := HO.out.valid i (List.mem_of_getElem? hi)
      rw [HN.out] at hvi
      obtain ⟨iN, hiN⟩ : ∃ iN : Nat, i = iN := ⟨i.toNat, by omega⟩
      subst hiN
      have hiNz : (iN : Int) < (N : Int) := hvi.2
      clear hio hi
      by_cases hm : Met (someJ js (keptTo js sup ord' k ++ [(iN : Int)])) sup
      · have e := (keptTo_succ (js := js) (sup := sup) HI.out).trans (stepK_yes hm)
        have HE := Lib.hid e
        have hp := HKP.out (k + 1) (by omega)
        rw [e] at hp
        obtain ⟨t, ht⟩ := hp
        have haM2 : a < M := by
          rw [← HM.out, ← ht, List.length_append, List.length_append, HKL.out]; simp only [List.length_cons, List.length_nil]; omega
        have haz : (a : Int) < (M : Int) := by omega
        have hazd : decide ((a : Int) < (M : Int)) = true := decide_eq_true haz
        have hKa : K[a]? = some (iN : Int) := by
          rw [← ht, List.append_assoc, List.getElem?_append_right (by rw [HKL.out]; exact Nat.le_refl _), HKL.out]; simp
        obtain ⟨b5, o5, h5, hb5, hc5⟩ := (HRK5.out.keep HB.out).int (k := a) (by rw [HM.out]; exact haM2)
        have hc5' : wr.cell? ⟨b5, o5 + a, none⟩ = some (.int .i64 iN) := by rw [hc5, hKa]; rfl
        obtain ⟨bj, oj, j, hbe, hbj, hj, k0, k1, k2, k3, k4⟩ := rdJ_at ((HR.out.keep B5.out).keep HB.out) (k := iN) (by rw [HN.out]; omega)
        have hjk : jAt js iN = j := by simp [jAt, hj]
        have hxl : (someJ js (keptTo js sup ord' k)).length ≤ 100000 := by rw [someJ_len, HKL.out]; omega
        obtain ⟨ap, v', w6, av, aw, HO1, HA1⟩ := app_job j.frm j.till j.energy j.rate j.rank HX.out HB.out.size hxl
        have HB6 : Hid (Below w5.heap.size w5 w6) := Lib.hid (HB.out.trans HA1.out.bel)
        have HX6 : Hid (OwnJ w6 w5.heap.size v' (someJ js (keptTo js sup ord' (k + 1)))) := Lib.hid (by
          rw [HE.out, someJ_snoc, show jAt js (Int.toNat (iN : Int)) = j by simpa using hjk]
          exact HO1.out)
        have HKL2 : Hid ((keptTo js sup ord' (k + 1)).length = a + 1) := Lib.hid (by rw [HE.out, List.length_append, HKL.out]; rfl)
        subst h5 hbe
        clear hm e ht hKa hc5 hj hjk HX HB HO1 HA1 HE
        go_wp2_with fail
        go_roundg (N - (k + 1))
        case measure => omega
        case rel => exact ⟨k + 1, a + 1, b, by go_num, by go_num, by go_num, by omega, by omega, Lib.hid (by have := HAB.out; omega), by omega, HKL2, HX6, HB6⟩
      · have e := (keptTo_succ (js := js) (sup := sup) HI.out).trans (stepK_no hm)
        have HE := Lib.hid e
        have hex := HC.out.ex k _ (by rw [HLO.out]; exact hlt) HI.out hm
        rw [HKL.out, show k - a = b by have := HAB.out; omega] at hex
        have hni : ¬ K[a]? = some (iN : Int) := fun h => by
          have h1 := List.mem_of_getElem? h
          rw [← HK.out] at h1
          exact not_later HO.out HOK.out HI.out hm (m := ord'.length) (by rw [HLO.out]; exact hlt) (Nat.le_refl _) h1
        have HKT : Hid (K.take a = keptTo js sup ord' k) := Lib.hid (by
          have := prefix_take (HKP.out k (by omega))
          rwa [HKL.out] at this)
        obtain ⟨cu, hcu⟩ : ∃ cu, C[b]? = some cu := by
          cases h : C[b]? with
          | none => rw [h] at hex; exact hex.elim
          | some x => exact ⟨x, rfl⟩
        rw [hcu] at hex
        have HEX : Hid (expl js sup cu (iN : Int) (K.take a)) := Lib.hid (by rw [HKT.out]; exact hex)
        have hbn : b < nc := by rw [← HNC.out]; exact (List.getElem?_eq_some_iff.1 hcu).1
        have HG : Hid (¬ a < M ∨ (a < M ∧ ∃ y, y ≠ (iN : Int) ∧ K[a]? = some y)) := Lib.hid (by
          by_cases h : a < M
          · right
            refine ⟨h, K[a]'(by rw [HM.out]; exact h), fun e => hni ?_, List.getElem?_eq_getElem _⟩
            rw [← e]; exact List.getElem?_eq_getElem _
          · exact .inl h)
        have HKL2 : Hid ((keptTo js sup ord' (k + 1)).length = a) := Lib.hid (by rw [HE.out]; exact HKL.out)
        have HX2 : Hid (OwnJ wr w5.heap.size u11 (someJ js (keptTo js sup ord' (k + 1)))) := Lib.hid (by rw [HE.out]; exact HX.out)
        obtain ⟨bc, oc, ⟨ua, un, uc, va, vn, vc⟩, cu', hAb, lc0, hcu', v0, v1, hrow0⟩ := (HRC5.out.keep HB.out).at_ (k := b) (by rw [HNC.out]; exact hbn)
        rw [hcu] at hcu'
        injection hcu' with hcu'
        subst hcu' hAb
        dsimp only at v0 v1
        have hrow : cu.1.length = un ∧ un ≤ 9223372036854775807 ∧ Rd 1 encI wr ua cu.1 ∧ cu.2.length = vn ∧ vn ≤ 9223372036854775807 ∧ Rd 1 encI wr va cu.2 := hrow0
        clear hrow0
        have HRW := Lib.hid hrow
        have hbz : (b : Int) < (nc : Int) := by omega
        have hbz2 : ¬ (nc : Int) ≤ (b : Int) := by omega
        have HL1 : Hid (cu.1.length = un) := Lib.hid hrow.1
        have HL2 : Hid (cu.2.length = vn) := Lib.hid hrow.2.2.2.1
        have hu1 := hrow.2.1
        have hu2 := hrow.2.2.2.2.1
        clear hm e hex hni hcu HX hrow HE
        go_upto_region 12 with (fail)
        go_cut [60, 61, 62, 63, 64, 65, 66, 67, 68, 69, 70, 71] (fun v60 v61 v62 v63 v64 v65 v66 v67 v68 v69 v70 v71 wx => v71 = .bool false ∧ Hid (wx = wr))
        case first =>
          rcases HG.out with hg | ⟨hg, y, hy, hky⟩
          · have haz : ¬ (a : Int) < (M : Int) := by omega
            have hazd : decide ((a : Int) < (M : Int)) = false := decide_eq_false haz
            clear HG
            go_wp2_with fail
            try go_step
            go_meet
            exact ⟨rfl, Lib.hid rfl⟩
          · have haz : (a : Int) < (M : Int) := by omega
            have hazd : decide ((a : Int) < (M : Int)) = true := decide_eq_true haz
            obtain ⟨b5, o5, h5, hb5, hc5⟩ := (HRK5.out.keep HB.out).int (k := a) (by rw [HM.out]; exact hg)
            have hc5' : wr.cell? ⟨b5, o5 + a, none⟩ = some (.int .i64 y) := by rw [hc5, hky]; rfl
            have hyz : (y == (iN : Int)) = false := by simpa using hy
            subst h5
            clear hc5 hky HG hy
            go_wp2_with fail
            try go_step
            go_meet
            exact ⟨rfl, Lib.hid rfl⟩
        case rest =>
          obtain ⟨rfl, hwx⟩ := hcut
          have hwx := hwx.out
          subst hwx
          clear HG
          go_upto_region 18 with (fail)
          refine wp_world (fun X => X.cell? ⟨wc.heap.size, 0, none⟩ = some (.slice ua un uc) ∧ X.cell? ⟨wc.heap.size, 1, none⟩ = some (.slice va vn vc) ∧ Below wc.heap.size wc X) ⟨by go_simp, by go_simp, (Below.refl _ _).alloc (Nat.le_refl _) _⟩ ?_
          rintro X ⟨q0, q1, hXb⟩
          have lq := World.block_lt_of_cell? X _ q0
          have HXB := Lib.hid hXb
          have HBX := Lib.hid (HB.out.trans (hXb.mono HB.out.size))
          have HB5X := Lib.hid (below_then B5.out HBX.out)
          have hcut3 := (HRW.out.2.2.1).keep hXb
          have hcut4 := (HRW.out.2.2.2.2.2).keep hXb
          have HRX := Lib.hid (HRK5.out.keep HBX.out)
          have hCon := Lib.hid (plCheckCut_any A A2 ua va c N c2 T uc un vc vn js sup cu.1 cu.2 X (HR.out.keep HB5X.out) HN hl (HR2.out.keep HB5X.out) HN2 hl2 hcut3 HL1 hu1 hcut4 HL2 hu2)
          have HR3 := Lib.hid hcut3
          clear hXb HB hcut3 hcut4 HRW
          go_wp2_with fail
          refine hCon.out.mono ?_
          rw [HEX.out.1]
          rintro e w6 ⟨rfl, hb6⟩
          have r0 := (hb6.cell (p := ⟨wc.heap.size, 0, none⟩) lq).trans q0
          have HB6 := Lib.hid (HBX.out.trans (hb6.mono HBX.out.size))
          have HWX := Lib.hid (HXB.out.trans (hb6.mono HXB.out.size))
          have HR36 := Lib.hid (HR3.out.keep hb6)
          have HRK6 := Lib.hid (HRX.out.keep hb6)
          have lq6 := Nat.lt_of_lt_of_le lq hb6.size
          clear hb6 hCon q0 q1 HXB HBX HB5X HR3 HRX lq
          have hHas := Lib.hid (rrHas_any ua uc un cu.1 (iN : Int) w6 HR36.out HL1 hu1)
          have hT : hasB cu.1 (iN : Int) = true := hasB_iff.2 HEX.out.2.1
          rw [hT] at hHas
          clear hT
          go_wp2_with fail
          refine hHas.out.mono ?_
          rintro e w7 ⟨rfl, rfl⟩
          clear hHas
          go_wp2_with fail
          have haN : a ≤ ck := by omega
          have hackz : (a : Int) ≤ (ck : Int) := by omega
          have HLT : Hid ((K.take a).length = a) := Lib.hid (by rw [List.length_take, HM.out]; omega)
          go_loopg [16, 106] un (fun g2 v16 v106 wr => ∃ q : Nat, v106 = .int .i64 q ∧ q ≤ un ∧ un - q ≤ g2 ∧ Hid (Below w7.heap.size w7 wr))
          case atStart => exact ⟨0, by go_num, by omega, by omega, Lib.hid (Below.refl _ _)⟩
          case round =>
            obtain ⟨q, rfl, hq, hg2, HBQ⟩ := hrel
            by_cases hql : q < un
            · have hqlz : (q : Int) < (un : Int) := by omega
              obtain ⟨bx, ox, x, hax, hbx, hx, hxo⟩ := (HR36.out.keep HBQ.out).at_ (k := q) (by rw [HL1.out]; exact hql)
              have hxo0 : wr.cell? ⟨bx, ox + q, none⟩ = some (.int .i64 x) := by have := hxo 0 _ rfl; simpa using this
              have HXM := Lib.hid (HEX.out.2.2 x (List.mem_of_getElem? hx))
              subst hax
              clear hx hxo
              by_cases hxi : x = (iN : Int)
              · have hz : (x != (iN : Int)) = false := by simpa using hxi
                have hze : (x == (iN : Int)) = true := by simpa using hxi
                clear hxi
                go_wp2_with fail
                go_roundg (un - (q + 1))
                case measure => omega
                case rel => exact ⟨q + 1, by go_num, by omega, by omega, HBQ⟩
              · have hz : (x != (iN : Int)) = true := by simpa using hxi
                have hze : (x == (iN : Int)) = false := by simpa using hxi
                have hmem : x ∈ K.take a := by
                  rcases HXM.out with h | h
                  · exact absurd h hxi
                  · exact h
                have hKM : x ∈ K := List.mem_of_mem_take hmem
                obtain ⟨k0, hk0, _⟩ := mem_fAt hKM
                obtain ⟨b6, o6, y0, hak6, hbk6, _, _⟩ := HRK6.out.at_ hk0
                have hHas := Lib.hid (rrHas_any ak ck a (K.take a) x wr (rd_take (HRK6.out.keep HBQ.out) a) HLT (by omega))
                rw [hasB_iff.2 hmem] at hHas
                subst hak6
                clear hxi hmem hKM hk0
                go_wp2_with fail
                refine hHas.out.mono ?_
                rintro e w8 ⟨rfl, rfl⟩
                go_wp2_with fail
                go_roundg (un - (q + 1))
                case measure => omega
                case rel => exact ⟨q + 1, by go_num, by omega, by omega, HBQ⟩
            · have hqlz : ¬ (q : Int) < (un : Int) := by omega
              have HB8 := Lib.hid (HB6.out.trans (HBQ.out.mono HB6.out.size))
              have HX8 := Lib.hid (HX2.out.keep (Below.trans HWX.out (HBQ.out.mono HWX.out.size)))
              clear HX2 HB6
              go_wp2_with fail
              go_roundg (N - (k + 1))
              case measure => omega
              case rel => exact ⟨k + 1, a, b + 1, by go_num, by go_num, by go_num, by omega, by omega, Lib.hid (by have := HAB.out; omega), by omega, HKL2, HX8, HB8⟩
    · have hltz : ¬ (k : Int) < (N : Int) := by omega
      have hkN : k = N := by omega
      have hKN : keptTo js sup ord' k = K := by rw [hkN, ← HLO.out]; exact HK.out
      have HX2 := HX.out
      have haL := HKL.out
      rw [hKN] at HX2 haL
      have haM3 : a = M := by rw [← haL, HM.out]
      obtain ⟨a9, d9, e9, r9⟩ := HX2.rd encJ_len5
      rw [someJ_len, HM.out] at e9
      have HMK := (HKA.out N (Nat.le_refl _)).met
      rw [show keptTo js sup ord' N = K by rw [← HLO.out]; exact HK.out] at HMK
      have HMET := Lib.hid HMK
      have HOK2 : Hid (okP (someJ js K) sup = true) := Lib.hid (okP_some HOK.out (by rw [← HK.out]; exact kept_valid HOK.out HO.out.nodup HO.out.valid (Nat.le_refl _)) (by rw [HM.out]; exact hM12))
      have HL9 : Hid ((someJ js K).length = M) := Lib.hid (by rw [someJ_len, HM.out])
      have HBw := Lib.hid (below_then B5.out HB.out)
      have HR9 := Lib.hid r9
      subst e9 haM3
      clear HX HX2 haL hKN HMK r9 hkN hk hg1 hlt HAB HKL
      go_wp2_with fail
      refine (plSchedule_any a9 A2 d9 a c2 T (someJ js K) sup wr HR9.out HL9 (by omega) (HR2.out.keep HBw.out) HN2 hl2).mono ?_
      rintro e w9 ⟨hb9, hpost⟩
      obtain ⟨a0, l0, d0, a3, n3, d3, a4, n4, d4, er, rfl, hst⟩ := schedTuple HOK2.out hpost
      have HE : Hid (Below w.heap.size w (w9.alloc (.cells #[.slice a3 n3 d3, .slice a4 n4 d4] 30))) := Lib.hid ((below_then HBw.out hb9).alloc (below_then HBw.out hb9).size _)
      clear hpost hb9
      rcases hst with ⟨_, rfl⟩ | ⟨hnm, rfl⟩
      · go_wp2_with fail
        go_ret
        exact ⟨rfl, HE.out⟩
      · exact absurd HMET.out hnm
end Go.Proofs.Ytgfcnkfmgpakkaa
