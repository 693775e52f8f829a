/-
ReplanLower, walked.
-/
import Derived.Test.YtgfcnkfmgpakkaaCRepW4
import Derived.Test.YtgfcnkfmgpakkaaGRepM
namespace Go.Proofs.Ytgfcnkfmgpakkaa
open Go.RowKit
set_option linter.unusedVariables false
set_option linter.unusedSimpArgs false
set_option maxRecDepth 100000 in
set_option maxHeartbeats 8000000 in
theorem walk_ReplanLower (A : Option Addr) (c N : Nat) (js : List GJob) {w : World} (hR : Rd 5 encJ w A js) (HN : Hid (js.length = N)) (hl : N ≤ 9223372036854775807) (_ : ∀ x, x ∈ js → wfJ x)
    (A2 : Option Addr) (c2 T : Nat) (sup : List Int) (hR2 : Rd 1 encI w A2 sup) (HN2 : Hid (sup.length = T)) (hl2 : T ≤ 9223372036854775807) (_ : ∀ x, x ∈ sup → wf64 x) (s : Int) (ws : (Lit.int .u8 s).wf = true) :
    Calls Try.prog 16 #[.slice A N c, .slice A2 T c2, .int .u8 s] w fun e w' => e = .returned (.bool true) ∧ Below w.heap.size w w' := by
  have HR := Lib.hid hR
  have HR2 := Lib.hid hR2
  clear hR hR2
  go_enter Try.func16, Try.ntmps16
  go_wp2_with fail
  refine (lrHead_any _).mono ?_
  rintro e w1 ⟨rfl, b1⟩
  have B1 := Lib.hid b1
  clear b1
  go_wp2_with fail
  refine (lrUsable_any A A2 c N c2 T js sup w1 (HR.out.keep B1.out) HN hl (HR2.out.keep B1.out) HN2 hl2).mono ?_
  rintro e w2 ⟨rfl, hb2⟩
  have B2 := Lib.hid (below_then B1.out hb2)
  clear hb2 B1
  have bs := u8_bd ws
  cases hok : okP js sup
  · clear hok
    go_wp2_with fail
    go_ret
    exact ⟨rfl, B2.out⟩
  have HOK := Lib.hid hok
  clear hok
  have hN12 : N ≤ 12 := by have := (okP_iff.1 HOK.out).1.1; rw [HN.out] at this; exact this
  by_cases hN0 : N = 0
  · have hz : ((N : Int) == 0) = true := by simp [hN0]
    clear hN0
    go_wp2_with fail
    go_ret
    exact ⟨rfl, B2.out⟩
  have hz : ((N : Int) == 0) = false := by simp; omega
  go_wp2_with fail
  refine (rrOrder_own A c N js sup w2 (HR.out.keep B2.out) HN HOK.out).mono ?_
  rintro e w3 ⟨a8, d8, ord, rfl, o8, r8, ho, hb3⟩
  have hNd : N ≤ d8 := o8.len_le (by rw [ho.len, HN.out])
  have HO := Lib.hid ho
  have HR8 := Lib.hid r8
  have B3 := Lib.hid (below_then B2.out hb3)
  obtain ⟨n, hn⟩ : ∃ n : Nat, n = s.toNat % N := ⟨_, rfl⟩
  have hnN : n < N := by rw [hn]; exact Nat.mod_lt _ (by omega)
  have hrem : s.tmod (N : Int) = (n : Int) := by
    rw [Int.tmod_eq_emod_of_nonneg (by omega), hn, Int.natCast_emod, Int.toNat_of_nonneg (by omega)]
  have hNz : ¬ (N : Int) = 0 := by omega
  have HRT := Lib.hid (rd_take r8 n)
  have HLT : Hid ((ord.take n).length = n) := Lib.hid (by rw [List.length_take, ho.len, HN.out]; omega)
  clear o8 ho r8 hb3 hn
  go_wp2_with fail
  go_loopg [10, 11, 45] N (fun g1 v10 v11 v45 wr => ∃ k : Nat, v45 = .int .i64 k ∧ k ≤ N ∧ N - k ≤ g1 ∧ Hid (OwnN wr w3.heap.size v10 (upTo (ord.take n) k)) ∧ Hid (Below w3.heap.size w3 wr))
  case atStart => exact ⟨0, by go_num, by omega, by omega, Lib.hid (OwnR.nil _ _), Lib.hid (Below.refl _ _)⟩
  case round =>
    obtain ⟨k, rfl, hk, hg1, HX, HB⟩ := hrel
    by_cases hlt : k < N
    · have hltz : (k : Int) < (N : Int) := by omega
      have hnd : (n : Int) ≤ (d8 : Int) := by omega
      have h1 := Lib.hid (rrHas_any a8 d8 n (ord.take n) (k : Int) wr (HRT.out.keep HB.out) HLT (by omega))
      have hul := upTo_len (ord.take n) k
      cases hh : hasB (ord.take n) (k : Int)
      · rw [hh] at h1
        have HX2 : Hid (OwnN wr w3.heap.size u10 (upTo (ord.take n) (k + 1))) := Lib.hid (by
          have e : upTo (ord.take n) (k + 1) = upTo (ord.take n) k := by
            show upTo (ord.take n) k ++ _ = _
            rw [if_neg (fun h => by have := hasB_iff.2 (show (k : Int) ∈ ord.take n by unfold inL at h; simpa using h); rw [hh] at this; cases this), List.append_nil]
          rw [e]; exact HX.out)
        clear hh HX
        go_wp2_with fail
        refine h1.out.mono ?_
        rintro e w9 ⟨rfl, rfl⟩
        go_wp2_with fail
        go_roundg (N - (k + 1))
        case measure => omega
        case rel => exact ⟨k + 1, by go_num, by omega, by omega, HX2, HB⟩
      · rw [hh] at h1
        obtain ⟨ap, v', w5, av, aw, HO1, HA1⟩ := app_num (k : Int) HX.out HB.out.size (by omega)
        have HB2 : Hid (Below w3.heap.size w3 w5) := Lib.hid (HB.out.trans HA1.out.bel)
        have HX2 : Hid (OwnN w5 w3.heap.size v' (upTo (ord.take n) (k + 1))) := Lib.hid (by
          have e : upTo (ord.take n) (k + 1) = upTo (ord.take n) k ++ [(k : Int)] := by
            show upTo (ord.take n) k ++ _ = _
            rw [if_pos (by unfold inL; simpa using hasB_iff.1 hh)]
          rw [e]; exact HO1.out)
        clear hh HX HA1 HO1 HB hul
        go_wp2_with fail
        refine h1.out.mono ?_
        rintro e w9 ⟨rfl, rfl⟩
        go_wp2_with fail
        go_roundg (N - (k + 1))
        case measure => omega
        case rel => exact ⟨k + 1, by go_num, by omega, by omega, HX2, HB2⟩
    · have hltz : ¬ (k : Int) < (N : Int) := by omega
      have hkn : k = N := by omega
      have hx := HX.out
      rw [hkn] at hx
      obtain ⟨fs, hfs⟩ : ∃ fs, fs = upTo (ord.take n) js.length := ⟨_, rfl⟩
      rw [show upTo (ord.take n) N = fs by rw [hfs, HN.out]] at hx
      obtain ⟨ao, co, eo, ro⟩ := hx.rd encI_len1
      have hol := upTo_len (ord.take n) js.length
      rw [← hfs, HN.out] at hol
      obtain ⟨L, hL⟩ : ∃ L, Hid (fs.length = L) := ⟨_, Lib.hid rfl⟩
      rw [hL.out] at eo hol
      subst eo
      have hL12 : L ≤ 12 := by omega
      have HFS := Lib.hid hfs
      have HRO := Lib.hid ro
      have HB3 := Lib.hid (below_then B3.out HB.out)
      have HV : Hid (ValidL js.length fs) := Lib.hid (fun x hx => by
        rw [HFS.out] at hx
        have := mem_upTo.1 hx; omega)
      have HOK2 : Hid (okP (someJ js fs) sup = true) := Lib.hid (okP_some HOK.out HV.out (by rw [hL.out]; exact hL12))
      have HNO : Hid (n ≤ ord.length) := Lib.hid (by rw [HO.out.len, HN.out]; omega)
      clear ro HX hx hk hg1 hkn hlt hfs hol HRT HLT HB
      go_wp2_with fail
      refine (rKeep_any A A2 c N c2 T js sup wr (HR.out.keep HB3.out) HN hl (HR2.out.keep HB3.out) HN2 hl2).mono ?_
      rintro e w6 ⟨hb6, hx⟩
      rcases hx with ⟨h, _⟩ | ⟨_, ord', ak, ck, ac, cc, vs, C, ho, rfl, hC, r1, r2, l1, l2, hcap1, hcap2⟩
      · rw [HOK.out] at h
        cases h
      have he := order_unique ho HO.out
      subst he
      have B6 := Lib.hid (below_then HB3.out hb6)
      have HRO6 := Lib.hid (HRO.out.keep hb6)
      obtain ⟨K, HK⟩ : ∃ K, Hid (keptTo js sup ord' ord'.length = K) := ⟨_, Lib.hid rfl⟩
      obtain ⟨M, HM⟩ : ∃ M, Hid (K.length = M) := ⟨_, Lib.hid rfl⟩
      rw [HK.out] at r1 l1 ⊢
      rw [HM.out] at l1 ⊢
      have hM12 : M ≤ 12 := by
        have h := (kept_all HOK.out ho.nodup ho.valid ord'.length (Nat.le_refl _)).len
        rw [HK.out, HM.out, ho.len, HN.out] at h
        omega
      have HRK := Lib.hid r1
      generalize C.length = nc
      clear hb6 hC ho r1 r2 l2 HRO
      go_wp2_with fail
      refine (rrSome_any A ao c N co L js fs w6 (HR.out.keep B6.out) HN hl HRO6.out hL (by omega) HV).mono ?_
      rintro e w7 ⟨a7, d7, rfl, r7, hb7⟩
      have HR7 := Lib.hid r7
      have B7 := Lib.hid (below_then B6.out hb7)
      have HRK7 := Lib.hid (HRK.out.keep hb7)
      have HRO7 := Lib.hid (HRO6.out.keep hb7)
      have HLS : Hid ((someJ js fs).length = L) := Lib.hid (by rw [someJ_len]; exact hL.out)
      clear r7 hb7 HRK HRO6
      go_wp2_with fail
      refine (rKeep_any a7 A2 d7 L c2 T (someJ js fs) sup w7 HR7.out HLS (by omega) (HR2.out.keep B7.out) HN2 hl2).mono ?_
      rintro e w8 ⟨hb8, hx⟩
      rcases hx with ⟨h, _⟩ | ⟨_, ord2, ak2, ck2, ac2, cc2, vs2, C2, ho2, rfl, hC2, s1, s2, m1, m2, hcap3, hcap4⟩
      · rw [HOK2.out] at h
        cases h
      have B8 := Lib.hid (below_then B7.out hb8)
      have HRK8 := Lib.hid (HRK7.out.keep hb8)
      have HRO8 := Lib.hid (HRO7.out.keep hb8)
      obtain ⟨K2, HK2⟩ : ∃ K2, Hid (keptTo (someJ js fs) sup ord2 ord2.length = K2) := ⟨_, Lib.hid rfl⟩
      obtain ⟨M2, HM2⟩ : ∃ M2, Hid (K2.length = M2) := ⟨_, Lib.hid rfl⟩
      rw [HK2.out] at s1 m1 ⊢
      rw [HM2.out] at m1 ⊢
      have hM212 : M2 ≤ 12 := by
        have h := (kept_all HOK2.out ho2.nodup ho2.valid ord2.length (Nat.le_refl _)).len
        rw [HK2.out, HM2.out, ho2.len, HLS.out] at h
        omega
      have HRK2 := Lib.hid s1
      have HLOW : Hid (∀ q : Nat, q < L → (fAt fs q ∈ K ↔ (q : Int) ∈ K2)) := Lib.hid (fun q hq => by
        have := kept_lower HOK.out HO.out HNO.out HFS.out ho2 (k := q) (by rw [hL.out]; exact hq)
        rw [HK.out, HK2.out] at this
        exact this)
      generalize C2.length = nc2
      clear hb8 hC2 ho2 s1 s2 m2 HRK7 HRO7
      go_wp2_with fail
      go_loopg [18, 19, 82] L (fun g2 v18 v19 v82 wr => ∃ q : Nat, v82 = .int .i64 q ∧ q ≤ L ∧ L - q ≤ g2 ∧ Hid (Below w8.heap.size w8 wr))
      case atStart => exact ⟨0, by go_num, by omega, by omega, Lib.hid (Below.refl _ _)⟩
      case round =>
        obtain ⟨q, rfl, hq, hg2, HBQ⟩ := hrel
        by_cases hql : q < L
        · have hqlz : (q : Int) < (L : Int) := by omega
          obtain ⟨bo, oo, x, hao, hbo, hx, hxo⟩ := (HRO8.out.keep HBQ.out).at_ (k := q) (by rw [hL.out]; exact hql)
          subst hao
          have hxo0 : wr.cell? ⟨bo, oo + q, none⟩ = some (.int .i64 x) := by have := hxo 0 _ rfl; simpa using this
          have h1 := Lib.hid (rrHas_any ak ck M K x wr (HRK8.out.keep HBQ.out) HM (by omega))
          have h2 := Lib.hid (rrHas_any ak2 ck2 M2 K2 (q : Int) wr (HRK2.out.keep HBQ.out) HM2 (by omega))
          have HEQ : hasB K x = hasB K2 (q : Int) := by
            have h := HLOW.out q hql
            have hfx : fAt fs q = x := by unfold fAt; rw [hx]; rfl
            rw [hfx] at h
            rw [Bool.eq_iff_iff, hasB_iff, hasB_iff]
            exact h
          rw [HEQ] at h1
          clear hx hxo HEQ
          cases hh : hasB K2 (q : Int)
          all_goals
            rw [hh] at h1 h2
            clear hh
          all_goals
            go_wp2_with fail
            refine h1.out.mono ?_
            rintro e w9 ⟨rfl, rfl⟩
          all_goals
            go_wp2_with fail
            refine h2.out.mono ?_
            rintro e w9 ⟨rfl, rfl⟩
          all_goals go_wp2_with fail
          · go_roundg (L - (q + 1))
            case measure => omega
            case rel => exact ⟨q + 1, by go_num, by omega, by omega, HBQ⟩
          · go_roundg (L - (q + 1))
            case measure => omega
            case rel => exact ⟨q + 1, by go_num, by omega, by omega, HBQ⟩
        · have hqlz : ¬ (q : Int) < (L : Int) := by omega
          have HE := Lib.hid (below_then B8.out HBQ.out)
          go_wp2_with fail
          go_ret
          exact ⟨rfl, HE.out⟩
end Go.Proofs.Ytgfcnkfmgpakkaa
