/-
ReplanMore, walked.
-/
import Derived.Test.YtgfcnkfmgpakkaaCRepW0
namespace Go.Proofs.Ytgfcnkfmgpakkaa
open Go.RowKit
set_option linter.unusedVariables false
set_option linter.unusedSimpArgs false
set_option maxRecDepth 100000 in
set_option maxHeartbeats 8000000 in
theorem walk_ReplanMore (A : Option Addr) (c N : Nat) (js : List GJob) {w : World} (hR : Rd 5 encJ w A js) (HN : Hid (js.length = N)) (hl : N ≤ 9223372036854775807) (_ : ∀ x, x ∈ js → wfJ x)
    (A2 : Option Addr) (c2 T : Nat) (sup : List Int) (hR2 : Rd 1 encI w A2 sup) (HN2 : Hid (sup.length = T)) (hl2 : T ≤ 9223372036854775807) (_ : ∀ x, x ∈ sup → wf64 x) (A3 : Option Addr) (c3 nm : Nat) (more : List Int) (hR3 : Rd 1 encU w A3 more) (HNM : Hid (more.length = nm)) (hl3 : nm ≤ 9223372036854775807) (wm : ∀ x, x ∈ more → (Lit.int .u8 x).wf = true) :
    Calls Try.prog 17 #[.slice A N c, .slice A2 T c2, .slice A3 nm c3] w fun e w' => e = .returned (.bool true) ∧ Below w.heap.size w w' := by
  have HR := Lib.hid hR
  have HR2 := Lib.hid hR2
  clear hR hR2
  go_enter Try.func17, Try.ntmps17
  go_wp2_with fail
  refine (lrHead_any _).mono ?_
  rintro e w1 ⟨rfl, b1⟩
  have B1 := Lib.hid b1
  clear b1
  go_wp2_with fail
  refine (lrUsable_any A A2 c N c2 T js sup w1 (HR.out.keep B1.out) HN hl (HR2.out.keep B1.out) HN2 hl2).mono ?_
  rintro e w2 ⟨rfl, hb2⟩
  have B2 := Lib.hid (below_then B1.out hb2)
  clear hb2 B1
  cases hok : okP js sup
  · clear hok
    go_wp2_with fail
    go_ret
    exact ⟨rfl, B2.out⟩
  have HOK := Lib.hid hok
  clear hok
  have hN12 : N ≤ 12 := by have := (okP_iff.1 HOK.out).1.1; rw [HN.out] at this; exact this
  have hT24 : T ≤ 24 := by have := (okP_iff.1 HOK.out).1.2; rw [HN2.out] at this; exact this
  have al : Below w2.heap.size w2 (w2.alloc (.cells #[] 3)) := (Below.refl _ _).alloc (Nat.le_refl _) _
  obtain ⟨ap, v2, w5, av, aw, HO5, HA5⟩ := app_argR (P := Try.prog) (ty := 23) (c := c2) (m := T) appInfoNum Try.underlying23 rfl (by omega) encI_len1 encI_one (own_lit0 w2) ((HR2.out.keep B2.out).keep al) HN2.out al.size (by simp; unfold maxLen; omega) (by simp; omega)
  have HB5 := Lib.hid (al.trans HA5.out.bel)
  clear al HA5
  have ho5 := HO5.out
  rw [List.nil_append] at ho5
  obtain ⟨aw5, cw5, e5⟩ := ho5.shape
  rw [HN2.out] at e5
  subst e5
  have HX0 := Lib.hid (RowX.of ho5 HN2.out)
  have HU := Lib.hid (fun (i : Nat) (hi : i < T) => okP_sup HOK.out (t := i) (by rw [HN2.out]; exact hi))
  clear ho5 HO5
  go_wp2_with fail
  go_loopg [9, 31] T (fun g1 v9 v31 wr => ∃ (k : Nat) (x : Nat → Int), v31 = .int .i64 k ∧ k ≤ T ∧ T - k ≤ g1 ∧ Hid (∀ i, i < T → 0 ≤ x i ∧ x i ≤ 1000 ∧ fAt sup i ≤ x i) ∧ Hid (RowX wr w2.heap.size aw5 T cw5 x) ∧ Hid (Below w2.heap.size w2 wr))
  case atStart => exact ⟨0, fun i => fAt sup i, by go_num, by omega, by omega, Lib.hid (fun i hi => by have := HU.out i hi; dsimp only; omega), HX0, HB5⟩
  case round =>
    clear HX0 HB5 HU
    obtain ⟨k, x, rfl, hk, hg1, HP, HX, HB⟩ := hrel
    by_cases hlt : k < T
    · have hltz : (k : Int) < (T : Int) := by omega
      by_cases hm : k < nm
      · have hmz : (k : Int) < (nm : Int) := by omega
        obtain ⟨g, F, eA, hg, hc5, ho, hF⟩ := HX.out (by omega)
        obtain ⟨b3, o3, y, eA3, hb3, hy, hyo⟩ := ((hR3.keep B2.out).keep HB.out).at_ (k := k) (by rw [HNM.out]; exact hm)
        have cm : wr.cell? ⟨b3, o3 + k, none⟩ = some (.int .u8 y) := by have := hyo 0 _ rfl; simpa using this
        have cg : wr.cell? ⟨g, k, none⟩ = some (.int .i64 (x k)) := by rw [ho.cell (i := k) (by omega), hF k hlt]
        have fg := ho.frozen k
        have by8 := u8_bd (wm y (List.mem_of_getElem? hy))
        have bx := HP.out k hlt
        subst eA eA3
        clear hy hyo
        go_wp2_with fail
        go_big_region
        generalize hz : (if x k + y < 1000 then x k + y else 1000) = z
        have bz : 0 ≤ z ∧ z ≤ 1000 ∧ x k ≤ z := by rw [← hz]; split <;> omega
        have HX2 : Hid (RowX (wr.setCell ⟨g, k, none⟩ (.int .i64 z)).drew w2.heap.size (some ⟨g, 0, none⟩) T cw5 (fun i => if i = k then z else x i)) := Lib.hid (fun _ => ⟨g, _, rfl, hg, hc5, (ho.set k _).drew, fun i hi => by
          dsimp only
          by_cases e : i = k
          · rw [if_pos e, if_pos e]
          · rw [if_neg e, if_neg e]; exact hF i hi⟩)
        have HB2 : Hid (Below w2.heap.size w2 (wr.setCell ⟨g, k, none⟩ (.int .i64 z)).drew) := Lib.hid (HB.out.setCell (p := ⟨g, k, none⟩) hg _).drew
        have HP2 : Hid (∀ i, i < T → 0 ≤ (if i = k then z else x i) ∧ (if i = k then z else x i) ≤ 1000 ∧ fAt sup i ≤ (if i = k then z else x i)) := Lib.hid (fun i hi => by
          by_cases e : i = k
          · subst e; rw [if_pos rfl]; omega
          · rw [if_neg e]; exact HP.out i hi)
        clear hz HX HB HP ho hF cg fg
        go_wp2_with fail
        go_roundg (T - (k + 1))
        case measure => omega
        case rel => exact ⟨k + 1, _, by go_num, by omega, by omega, HP2, HX2, HB2⟩
      · have hmz : ¬ (k : Int) < (nm : Int) := by omega
        go_wp2_with fail
        go_roundg (T - (k + 1))
        case measure => omega
        case rel => exact ⟨k + 1, x, by go_num, by omega, by omega, HP, HX, HB⟩
    · have hltz : ¬ (k : Int) < (T : Int) := by omega
      have HLW : Hid ((mk T x).length = T) := Lib.hid (mk_len _ _)
      have HOKW : Hid (okP js (mk T x) = true) := Lib.hid (by
        obtain ⟨⟨a1, a2⟩, a3, a4⟩ := okP_iff.1 HOK.out
        refine okP_iff.2 ⟨⟨a1, by rw [mk_len, ← HN2.out]; exact a2⟩, fun u hu => ?_, fun j hj => ?_⟩
        · obtain ⟨i, hi, e⟩ := mem_fAt hu
          rw [mk_len] at hi
          rw [mk_f _ hi] at e
          have := HP.out i hi
          rw [← e]
          exact okU_iff.2 (by omega)
        · rw [mk_len, ← HN2.out]; exact a4 j hj)
      have HMORE : Hid (∀ t, t < sup.length → fAt sup t ≤ fAt (mk T x) t) := Lib.hid (fun t ht => by
        rw [HN2.out] at ht
        rw [mk_f _ ht]
        exact (HP.out t ht).2.2)
      have HRW := Lib.hid HX.out.rd
      generalize mk T x = wide at HLW HOKW HMORE HRW
      have B3 := Lib.hid (below_then B2.out HB.out)
      clear HX HP HB hk hg1 hlt ap
      go_wp2_with fail
      refine (rKeep_any A A2 c N c2 T js sup wr (HR.out.keep B3.out) HN hl (HR2.out.keep B3.out) HN2 hl2).mono ?_
      rintro e w6 ⟨hb6, hx⟩
      rcases hx with ⟨h, _⟩ | ⟨_, ord, ak, ck, ac, cc, vs, C, ho, rfl, hC, r1, r2, l1, l2, hcap1, hcap2⟩
      · rw [HOK.out] at h
        cases h
      have B6 := Lib.hid (below_then B3.out hb6)
      have HRW6 := Lib.hid (HRW.out.keep hb6)
      obtain ⟨K, HK⟩ : ∃ K, Hid (keptTo js sup ord ord.length = K) := ⟨_, Lib.hid rfl⟩
      obtain ⟨M, HM⟩ : ∃ M, Hid (K.length = M) := ⟨_, Lib.hid rfl⟩
      rw [HK.out] at r1 l1 ⊢
      rw [HM.out] at l1 ⊢
      have hM12 : M ≤ 12 := by
        have h := (kept_all HOK.out ho.nodup ho.valid ord.length (Nat.le_refl _)).len
        rw [HK.out, HM.out, ho.len, HN.out] at h
        omega
      have HO := Lib.hid ho
      have HRK := Lib.hid r1
      generalize C.length = nc
      clear hb6 hC ho r1 r2 l2
      go_wp2_with fail
      refine (rKeep_any A aw5 c N cw5 T js wide w6 (HR.out.keep B6.out) HN hl HRW6.out HLW hl2).mono ?_
      rintro e w7 ⟨hb7, hx⟩
      rcases hx with ⟨h, _⟩ | ⟨_, ord2, ak2, ck2, ac2, cc2, vs2, C2, ho2, rfl, hC2, s1, s2, m1, m2, hcap3, hcap4⟩
      · rw [HOKW.out] at h
        cases h
      have he := order_unique ho2 HO.out
      subst he
      have B7 := Lib.hid (below_then B6.out hb7)
      have HRK7 := Lib.hid (HRK.out.keep hb7)
      obtain ⟨K2, HK2⟩ : ∃ K2, Hid (keptTo js wide ord2 ord2.length = K2) := ⟨_, Lib.hid rfl⟩
      obtain ⟨M2, HM2⟩ : ∃ M2, Hid (K2.length = M2) := ⟨_, Lib.hid rfl⟩
      rw [HK2.out] at s1 m1 ⊢
      rw [HM2.out] at m1 ⊢
      have hM212 : M2 ≤ 12 := by
        have h := (kept_all HOKW.out ho2.nodup ho2.valid ord2.length (Nat.le_refl _)).len
        rw [HK2.out, HM2.out, ho2.len, HN.out] at h
        omega
      have HRK2 := Lib.hid s1
      generalize C2.length = nc2
      clear hb7 hC2 ho2 s1 s2 m2
      go_wp2_with fail
      refine (rrOrder_any A c N js sup w7 (HR.out.keep B7.out) HN HOK.out).mono ?_
      rintro e w8 ⟨a8, d8, ord', rfl, r8, ho', hb8⟩
      have he := order_unique ho' HO.out
      subst he
      have HR8 := Lib.hid r8
      have HB8 := Lib.hid (below_then B7.out hb8)
      have HRK8 := Lib.hid (HRK7.out.keep hb8)
      have HRO8 := Lib.hid (HRK2.out.keep hb8)
      have HLO : Hid (ord'.length = N) := Lib.hid (by rw [ho'.len, HN.out])
      clear r8 hb8 ho' HRK7 HRK2 HRK
      go_wp2_with fail
      go_loopg [17, 18, 19, 76] N (fun g2 v17 v18 v19 v76 wr => ∃ q : Nat, v76 = .int .i64 q ∧ q ≤ N ∧ N - q ≤ g2 ∧ Hid (∀ m x, m < q → ord'[m]? = some x → (x ∈ K ↔ x ∈ K2)) ∧ Hid (Below w8.heap.size w8 wr))
      case atStart => exact ⟨0, by go_num, by omega, by omega, Lib.hid (fun m x hm => by omega), Lib.hid (Below.refl _ _)⟩
      case round =>
        obtain ⟨q, rfl, hq, hg2, HE, HBQ⟩ := hrel
        by_cases hql : q < N
        · have hqlz : (q : Int) < (N : Int) := by omega
          obtain ⟨bo, oo, x, hao, hbo, hx, hxo⟩ := (HR8.out.keep HBQ.out).at_ (k := q) (by rw [HLO.out]; exact hql)
          subst hao
          have hxo0 : wr.cell? ⟨bo, oo + q, none⟩ = some (.int .i64 x) := by have := hxo 0 _ rfl; simpa using this
          have HI := Lib.hid hx
          have h1 := Lib.hid (rrHas_any ak ck M K x wr (HRK8.out.keep HBQ.out) HM (by omega))
          have h2 := Lib.hid (rrHas_any ak2 ck2 M2 K2 x wr (HRO8.out.keep HBQ.out) HM2 (by omega))
          clear hx hxo
          cases ha : hasB K x
          · rw [ha] at h1
            cases hb : hasB K2 x
            · rw [hb] at h2
              have HE2 : Hid (∀ m y, m < q + 1 → ord'[m]? = some y → (y ∈ K ↔ y ∈ K2)) := Lib.hid (fun m y hm hy => by
                by_cases e : m = q
                · subst e
                  rw [HI.out] at hy
                  injection hy with hy
                  subst hy
                  rw [← hasB_iff, ← hasB_iff, ha, hb]
                · exact HE.out m y (by omega) hy)
              clear ha hb HE
              go_wp2_with fail
              refine h1.out.mono ?_
              rintro e w9 ⟨rfl, rfl⟩
              go_wp2_with fail
              refine h2.out.mono ?_
              rintro e w9 ⟨rfl, rfl⟩
              go_wp2_with fail
              go_roundg (N - (q + 1))
              case measure => omega
              case rel => exact ⟨q + 1, by go_num, by omega, by omega, HE2, HBQ⟩
            · rw [hb] at h2
              have HF := Lib.hid (below_then HB8.out HBQ.out)
              clear ha hb HE
              go_wp2_with fail
              refine h1.out.mono ?_
              rintro e w9 ⟨rfl, rfl⟩
              go_wp2_with fail
              refine h2.out.mono ?_
              rintro e w9 ⟨rfl, rfl⟩
              go_wp2_with fail
              go_ret
              exact ⟨rfl, HF.out⟩
          · cases hb : hasB K2 x
            · exfalso
              have h := kept_more HOK.out HOKW.out (by rw [HLW.out, HN2.out]) HMORE.out HO.out HI.out (fun m y hm hy => by rw [HK.out, HK2.out]; exact HE.out m y hm hy) (by rw [HK.out]; exact hasB_iff.1 ha)
              rw [HK2.out, ← hasB_iff, hb] at h
              cases h
            · rw [ha] at h1
              rw [hb] at h2
              have HE2 : Hid (∀ m y, m < q + 1 → ord'[m]? = some y → (y ∈ K ↔ y ∈ K2)) := Lib.hid (fun m y hm hy => by
                by_cases e : m = q
                · subst e
                  rw [HI.out] at hy
                  injection hy with hy
                  subst hy
                  rw [← hasB_iff, ← hasB_iff, ha, hb]
                · exact HE.out m y (by omega) hy)
              clear ha hb HE
              go_wp2_with fail
              refine h1.out.mono ?_
              rintro e w9 ⟨rfl, rfl⟩
              go_wp2_with fail
              refine h2.out.mono ?_
              rintro e w9 ⟨rfl, rfl⟩
              go_wp2_with fail
              go_roundg (N - (q + 1))
              case measure => omega
              case rel => exact ⟨q + 1, by go_num, by omega, by omega, HE2, HBQ⟩
        · have hqlz : ¬ (q : Int) < (N : Int) := by omega
          have HE := Lib.hid (below_then HB8.out HBQ.out)
          go_wp2_with fail
          go_ret
          exact ⟨rfl, HE.out⟩
end Go.Proofs.Ytgfcnkfmgpakkaa
