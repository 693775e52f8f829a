/-
ReplanBest, walked.
-/
import Derived.Test.YtgfcnkfmgpakkaaCRepW0
namespace Go.Proofs.Ytgfcnkfmgpakkaa
open Go.RowKit
set_option linter.unusedVariables false
set_option linter.unusedSimpArgs false
set_option maxRecDepth 100000 in
set_option maxHeartbeats 8000000 in
theorem walk_ReplanBest (A : Option Addr) (c N : Nat) (js : List GJob) {w : World} (hR : Rd 5 encJ w A js) (HN : Hid (js.length = N)) (hl : N ≤ 9223372036854775807) (_ : ∀ x, x ∈ js → wfJ x)
    (A2 : Option Addr) (c2 T : Nat) (sup : List Int) (hR2 : Rd 1 encI w A2 sup) (HN2 : Hid (sup.length = T)) (hl2 : T ≤ 9223372036854775807) (_ : ∀ x, x ∈ sup → wf64 x) (s : Int) (ws : (Lit.int .u16 s).wf = true) :
    Calls Try.prog 14 #[.slice A N c, .slice A2 T c2, .int .u16 s] w fun e w' => e = .returned (.bool true) ∧ Below w.heap.size w w' := by
  have HR := Lib.hid hR
  have HR2 := Lib.hid hR2
  clear hR hR2
  go_enter Try.func14, Try.ntmps14
  go_wp2_with fail
  refine (lrHead_any _).mono ?_
  rintro e w1 ⟨rfl, b1⟩
  have B1 := Lib.hid b1
  clear b1
  go_wp2_with fail
  refine (lrUsable_any A A2 c N c2 T js sup w1 (HR.out.keep B1.out) HN hl (HR2.out.keep B1.out) HN2 hl2).mono ?_
  rintro e w2 ⟨rfl, hb2⟩
  have B2 := Lib.hid (below_then B1.out hb2)
  clear hb2 B1
  cases hok : okP js sup
  · clear hok
    go_wp2_with fail
    go_ret
    exact ⟨rfl, B2.out⟩
  have HOK := Lib.hid hok
  clear hok
  go_wp2_with fail
  refine (rKeep_any A A2 c N c2 T js sup w2 (HR.out.keep B2.out) HN hl (HR2.out.keep B2.out) HN2 hl2).mono ?_
  rintro e w3 ⟨hb3, hx⟩
  rcases hx with ⟨h, _⟩ | ⟨_, ord, ak, ck, ac, cc, vs, C, ho, rfl, hC, r1, r2, l1, l2, hcap1, hcap2⟩
  · rw [HOK.out] at h
    cases h
  have B3 := Lib.hid (below_then B2.out hb3)
  obtain ⟨K, HK⟩ : ∃ K, Hid (keptTo js sup ord ord.length = K) := ⟨_, Lib.hid rfl⟩
  obtain ⟨M, HM⟩ : ∃ M, Hid (K.length = M) := ⟨_, Lib.hid rfl⟩
  rw [HK.out] at r1 l1 ⊢
  rw [HM.out] at l1 ⊢
  have hN12 : N ≤ 12 := by have := (okP_iff.1 HOK.out).1.1; rw [HN.out] at this; exact this
  have hM12 : M ≤ 12 := by
    have h := (kept_all HOK.out ho.nodup ho.valid ord.length (Nat.le_refl _)).len
    rw [HK.out, HM.out, ho.len, HN.out] at h
    omega
  have HO := Lib.hid ho
  have HRK := Lib.hid r1
  generalize C.length = nc
  clear hb3 hC ho r1 r2 l2
  have bs := u16_bd ws
  go_wp2_with fail
  go_loopg [11, 12, 34] N (fun g1 v11 v12 v34 wr => ∃ (k : Nat) (oth : List Int), v34 = .int .i64 k ∧ k ≤ N ∧ N - k ≤ g1 ∧ oth.length ≤ k ∧ Hid (oth.Nodup ∧ ∀ x, x ∈ oth → 0 ≤ x ∧ x < k) ∧ Hid (OwnN wr w3.heap.size v11 oth) ∧ Hid (Below w3.heap.size w3 wr))
  case atStart => exact ⟨0, [], by go_num, by omega, by omega, by simp, Lib.hid ⟨List.nodup_nil, fun x hx => by cases hx⟩, Lib.hid (OwnR.nil _ _), Lib.hid (Below.refl _ _)⟩
  case round =>
    obtain ⟨k, oth, rfl, hk, hg1, hol, HP, HX, HB⟩ := hrel
    by_cases hlt : k < N
    · have hltz : (k : Int) < (N : Int) := by omega
      cases hbit : (bits BinOp.and IntKind.u16 (s / 2 ^ k) 1 == 1)
      · go_wp2_with fail
        go_roundg (N - (k + 1))
        case measure => omega
        case rel => exact ⟨k + 1, oth, by go_num, by omega, by omega, by omega, Lib.hid ⟨HP.out.1, fun x hx => by have := HP.out.2 x hx; omega⟩, HX, HB⟩
      · obtain ⟨ap, v', w5, av, aw, HO1, HA1⟩ := app_num (k : Int) HX.out HB.out.size (by omega)
        have HB2 : Hid (Below w3.heap.size w3 w5) := Lib.hid (HB.out.trans HA1.out.bel)
        have HP2 : Hid ((oth ++ [(k : Int)]).Nodup ∧ ∀ x, x ∈ oth ++ [(k : Int)] → 0 ≤ x ∧ x < ((k + 1 : Nat) : Int)) := Lib.hid ⟨nodup_snoc HP.out.1 (fun h => by have := HP.out.2 _ h; omega), fun x hx => by
          rcases List.mem_append.1 hx with h | h
          · have := HP.out.2 x h; omega
          · simp at h; subst h; omega⟩
        clear HA1 HP HX HB
        go_wp2_with fail
        go_roundg (N - (k + 1))
        case measure => omega
        case rel => exact ⟨k + 1, _, by go_num, by omega, by omega, by rw [List.length_append]; simp; omega, HP2, HO1, HB2⟩
    · have hltz : ¬ (k : Int) < (N : Int) := by omega
      have hkn : k = N := by omega
      obtain ⟨ao, co, eo, ro⟩ := HX.out.rd encI_len1
      obtain ⟨L, hL⟩ : ∃ L, Hid (oth.length = L) := ⟨_, Lib.hid rfl⟩
      rw [hL.out] at eo hol
      subst eo
      have hL12 : L ≤ 12 := by omega
      have HRO := Lib.hid ro
      have HB3 := Lib.hid (below_then B3.out HB.out)
      have HV : Hid (ValidL js.length oth) := Lib.hid (fun x hx => by have := HP.out.2 x hx; rw [HN.out]; omega)
      have HND := Lib.hid HP.out.1
      clear ro HX HP hk hg1 hkn
      go_wp2_with fail
      refine (rrSome_any A ao c N co L js oth wr (HR.out.keep HB3.out) HN hl HRO.out hL (by omega) HV).mono ?_
      rintro e w6 ⟨a6, d6, rfl, r6, hb6⟩
      have HR6 := Lib.hid r6
      have HB6 := Lib.hid (below_then HB3.out hb6)
      have HBk := Lib.hid (below_then HB.out hb6)
      have HRO6 := Lib.hid (HRO.out.keep hb6)
      clear r6 hb6
      go_wp2_with fail
      refine (rpMet_any a6 A2 d6 L c2 T _ sup w6 HR6.out (Lib.hid (by rw [someJ_len]; exact hL.out)) (by omega) (HR2.out.keep HB6.out) HN2 hl2).mono ?_
      rintro e w7 ⟨b, rfl, hmb, hb7⟩
      have HB7 := Lib.hid (below_then HB6.out hb7)
      have HBk7 := Lib.hid (below_then HBk.out hb7)
      have HRO7 := Lib.hid (HRO6.out.keep hb7)
      cases b
      · clear hmb hb7
        go_wp2_with fail
        go_ret
        exact ⟨rfl, HB7.out⟩
      have HMET : Hid (MetA js sup oth) := Lib.hid ((met_some HOK.out HND.out HV.out).1 (hmb.1 rfl).2)
      clear hmb hb7 HRO HRO6 HB6 HBk
      go_wp2_with fail
      refine (rrOrder_any A c N js sup w7 (HR.out.keep HB7.out) HN HOK.out).mono ?_
      rintro e w8 ⟨a8, d8, ord', rfl, r8, ho', hb8⟩
      have he := order_unique ho' HO.out
      subst he
      have HR8 := Lib.hid r8
      have HB8 := Lib.hid (below_then HB7.out hb8)
      have HRK8 := Lib.hid (HRK.out.keep (below_then HBk7.out hb8))
      have HRO8 := Lib.hid (HRO7.out.keep hb8)
      have HLO : Hid (ord'.length = N) := Lib.hid (by rw [ho'.len, HN.out])
      clear r8 hb8 ho' HRO7 HBk7 HRK HB3 HB
      go_wp2_with fail
      go_loopg [14, 15, 16, 57] N (fun g2 v14 v15 v16 v57 wr => ∃ q : Nat, v57 = .int .i64 q ∧ q ≤ N ∧ N - q ≤ g2 ∧ Hid (∀ m x, m < q → ord'[m]? = some x → (x ∈ K ↔ x ∈ oth)) ∧ Hid (Below w8.heap.size w8 wr))
      case atStart => exact ⟨0, by go_num, by omega, by omega, Lib.hid (fun m x hm => by omega), Lib.hid (Below.refl _ _)⟩
      case round =>
        obtain ⟨q, rfl, hq, hg2, HE, HBQ⟩ := hrel
        by_cases hql : q < N
        · have hqlz : (q : Int) < (N : Int) := by omega
          obtain ⟨bo, oo, x, hao, hbo, hx, hxo⟩ := (HR8.out.keep HBQ.out).at_ (k := q) (by rw [HLO.out]; exact hql)
          subst hao
          have hxo0 : wr.cell? ⟨bo, oo + q, none⟩ = some (.int .i64 x) := by have := hxo 0 _ rfl; simpa using this
          have HI := Lib.hid hx
          have h1 := Lib.hid (rrHas_any ak ck M K x wr (HRK8.out.keep HBQ.out) HM (by omega))
          have h2 := Lib.hid (rrHas_any ao co L oth x wr (HRO8.out.keep HBQ.out) hL (by omega))
          clear hx hxo
          cases ha : hasB K x
          · cases hb : hasB oth x
            · rw [ha] at h1
              rw [hb] at h2
              have HE2 : Hid (∀ m y, m < q + 1 → ord'[m]? = some y → (y ∈ K ↔ y ∈ oth)) := Lib.hid (fun m y hm hy => by
                by_cases e : m = q
                · subst e
                  rw [HI.out] at hy
                  injection hy with hy
                  subst hy
                  rw [← hasB_iff, ← hasB_iff, ha, hb]
                · exact HE.out m y (by omega) hy)
              clear ha hb HE
              go_wp2_with fail
              refine h1.out.mono ?_
              rintro e w9 ⟨rfl, rfl⟩
              go_wp2_with fail
              refine h2.out.mono ?_
              rintro e w9 ⟨rfl, rfl⟩
              go_wp2_with fail
              go_roundg (N - (q + 1))
              case measure => omega
              case rel => exact ⟨q + 1, by go_num, by omega, by omega, HE2, HBQ⟩
            · exfalso
              have h := kept_best HOK.out HO.out HMET.out HI.out (fun m y hm hy => by rw [HK.out]; exact HE.out m y hm hy) (hasB_iff.1 hb)
              rw [HK.out, ← hasB_iff, ha] at h
              cases h
          · cases hb : hasB oth x
            · rw [ha] at h1
              rw [hb] at h2
              have HF := Lib.hid (below_then HB8.out HBQ.out)
              clear ha hb HE
              go_wp2_with fail
              refine h1.out.mono ?_
              rintro e w9 ⟨rfl, rfl⟩
              go_wp2_with fail
              refine h2.out.mono ?_
              rintro e w9 ⟨rfl, rfl⟩
              go_wp2_with fail
              go_ret
              exact ⟨rfl, HF.out⟩
            · rw [ha] at h1
              rw [hb] at h2
              have HE2 : Hid (∀ m y, m < q + 1 → ord'[m]? = some y → (y ∈ K ↔ y ∈ oth)) := Lib.hid (fun m y hm hy => by
                by_cases e : m = q
                · subst e
                  rw [HI.out] at hy
                  injection hy with hy
                  subst hy
                  rw [← hasB_iff, ← hasB_iff, ha, hb]
                · exact HE.out m y (by omega) hy)
              clear ha hb HE
              go_wp2_with fail
              refine h1.out.mono ?_
              rintro e w9 ⟨rfl, rfl⟩
              go_wp2_with fail
              refine h2.out.mono ?_
              rintro e w9 ⟨rfl, rfl⟩
              go_wp2_with fail
              go_roundg (N - (q + 1))
              case measure => omega
              case rel => exact ⟨q + 1, by go_num, by omega, by omega, HE2, HBQ⟩
        · have hqlz : ¬ (q : Int) < (N : Int) := by omega
          have HE := Lib.hid (below_then HB8.out HBQ.out)
          go_wp2_with fail
          go_ret
          exact ⟨rfl, HE.out⟩
end Go.Proofs.Ytgfcnkfmgpakkaa
