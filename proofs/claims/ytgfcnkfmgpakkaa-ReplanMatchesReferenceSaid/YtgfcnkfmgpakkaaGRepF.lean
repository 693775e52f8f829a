/-
Several texts in one: RepF, RepG, RepK.
-/
import Derived.Test.YtgfcnkfmgpakkaaGRepE
import Derived.Test.YtgfcnkfmgpakkaaCAdmJ
import Derived.Handy
/-
The reference's Check, walked.
-/
namespace Go.Proofs.Ytgfcnkfmgpakkaa
open Go.RowKit
set_option linter.unusedVariables false
set_option linter.unusedSimpArgs false
set_option maxRecDepth 100000 in
set_option maxHeartbeats 8000000 in
theorem rrCheck_any (A A2 A5 A6 : Option Addr) (c N c2 T c5 M c6 Nc : Nat) (js : List GJob) (sup kept ord : List Int) (vs : List CutV) (C : List (List Int × List Int)) (w : World) (hR : Rd 5 encJ w A js) (HN : Hid (js.length = N)) (hl : N ≤ 9223372036854775807) (hR2 : Rd 1 encI w A2 sup) (HN2 : Hid (sup.length = T)) (hl2 : T ≤ 9223372036854775807)
    (hR5 : Rd 1 encI w A5 kept) (HN5 : Hid (kept.length = M)) (hl5 : M ≤ c5 ∧ c5 ≤ 9223372036854775807) (hR6 : RdC w A6 vs C) (HN6 : Hid (C.length = Nc)) (hl6 : Nc ≤ c6 ∧ c6 ≤ 9223372036854775807) (HO : Hid (okP js sup = true → IsOrd js ord)) :
    Calls Try.prog 41 #[.slice A N c, .slice A2 T c2, .slice A5 M c5, .slice A6 Nc c6] w fun e w' => e = .returned (.bool (chkB js sup ord kept C)) ∧ Below w.heap.size w w' := by
  go_enter Try.func41, Try.ntmps41
  go_wp2_with fail
  refine (rpValid_any A A2 c N c2 T js sup w hR HN hl hR2 HN2 hl2).mono ?_
  rintro e w1 ⟨rfl, b1⟩
  cases hok : okP js sup
  · have HF : Hid (chkB js sup ord kept C = false) := Lib.hid (chkB_not (fun h => by rw [hok] at h; cases h.1))
    go_wp2_with fail
    go_ret
    exact ⟨ret_bool HF.out.symm, b1⟩
  obtain ⟨⟨t1, t2⟩, _, _⟩ := okP_iff.1 hok
  rw [HN.out] at t1
  rw [HN2.out] at t2
  have HOK := Lib.hid hok
  have HO := Lib.hid (HO.out hok)
  have B1 := Lib.hid b1
  clear hok b1
  by_cases hsum : M + Nc = N
  case neg =>
    have HF : Hid (chkB js sup ord kept C = false) := Lib.hid (chkB_not (fun h => by have := h.2.1; rw [HN5.out, HN6.out, HN.out] at this; exact hsum this))
    by_cases hbig : (M : Int) + (Nc : Int) ≤ 9223372036854775807
    · have hne : ((M : Int) + (Nc : Int) != (N : Int)) = true := by rw [bne_iff_ne]; omega
      clear hsum
      go_wp2_with fail
      go_ret
      exact ⟨ret_bool HF.out.symm, B1.out⟩
    · have hwrap : wrap64 ((M : Int) + (Nc : Int)) = (M : Int) + (Nc : Int) - 18446744073709551616 := wrap_over (by omega) (by omega)
      have hne : ((M : Int) + (Nc : Int) - 18446744073709551616 != (N : Int)) = true := by rw [bne_iff_ne]; omega
      clear hsum
      go_wp2_with fail
      go_ret
      exact ⟨ret_bool HF.out.symm, B1.out⟩
  have hne : ((M : Int) + (Nc : Int) != (N : Int)) = false := by rw [bne_eq_false_iff_eq]; omega
  have HS := Lib.hid hsum
  have hMs : M ≤ 12 := by omega
  have hNs : Nc ≤ 12 := by omega
  clear hsum
  go_wp2_with fail
  refine (rrOrder_any A c N js sup w1 (hR.keep B1.out) HN HOK.out).mono ?_
  rintro e w2 ⟨ao, dord, ord', rfl, ro, ho', hb2⟩
  obtain rfl := order_unique ho' HO.out
  have B2 := Lib.hid (below_then B1.out hb2)
  have HRO := Lib.hid ro
  have HLO : Hid (ord'.length = N) := Lib.hid (by rw [ho'.len, HN.out])
  have HR6 := Lib.hid (hR6.keep B2.out)
  have HR := Lib.hid (hR.keep B2.out)
  have HR2 := Lib.hid (hR2.keep B2.out)
  have HR5 := Lib.hid (hR5.keep B2.out)
  have HC0 : Hid (chkTo js sup kept C ord' 0 = some (0, 0)) := Lib.hid (by simp [chkTo])
  clear ho' hb2 ro hR hR2 hR5 hR6 B1
  go_wp2
  go_loopg [10, 11, 12] N (fun g1 v10 v11 v12 wr => ∃ (k a b : Nat), v11 = .int .i64 k ∧ v10 = .int .i64 a ∧ k ≤ N ∧ N - k ≤ g1 ∧ b ≤ Nc ∧ a ≤ M ∧ Hid (a + b = k) ∧ Hid (chkTo js sup kept C ord' k = some (a, b)) ∧ Hid (Below w2.heap.size w2 wr))
  case atStart => exact ⟨0, 0, 0, by go_num, by go_num, by omega, by omega, by omega, by omega, Lib.hid (by omega), HC0, Lib.hid (Below.refl _ _)⟩
  case round =>
    clear HC0
    obtain ⟨k, a, b, rfl, rfl, hk, hg1, hbN, haM, HAB, HC, HB⟩ := hrel
    by_cases hlt : k < N
    · have hltz : (k : Int) < (N : Int) := by omega
      obtain ⟨bo, oo, i, hao, hbo0, hi, hio⟩ := (HRO.out.keep HB.out).at_ (k := k) (by rw [HLO.out]; exact hlt)
      subst hao
      have hbo : bo < wr.heap.size := hbo0
      have hio0 : wr.cell? ⟨bo, oo + k, none⟩ = some (.int .i64 i) := by have := hio 0 _ rfl; simpa using this
      have HI := Lib.hid hi
      clear hio hi hbo0
      have HRw := Lib.hid (HR.out.keep HB.out)
      by_cases hK : kept[a]? = some i
      · have haM2 : a < M := by rw [← HN5.out]; exact (List.getElem?_eq_some_iff.1 hK).1
        have haz : (a : Int) < (M : Int) := by omega
        have hazd : decide ((a : Int) < (M : Int)) = true := decide_eq_true haz
        have hazn : decide (a < M) = true := decide_eq_true haM2
        obtain ⟨b5, o5, h5, hb5, hc5⟩ := (HR5.out.keep HB.out).int (k := a) (by rw [HN5.out]; exact haM2)
        have hc5' : wr.cell? ⟨b5, o5 + a, none⟩ = some (.int .i64 i) := by rw [hc5, hK]; rfl
        subst h5
        have HC2 : Hid (chkTo js sup kept C ord' (k + 1) = some (a + 1, b)) := Lib.hid (by rw [chkTo_succ HI.out, HC.out, stepC_keep hK])
        clear hc5 hK HC
        go_wp2_with fail
        go_quiet (fail)
        have HBd := Lib.hid (below_drewN HB.out nq)
        go_wp2
        go_roundg (N - (k + 1))
        case measure => omega
        case rel => have hab := HAB.out; exact ⟨k + 1, a + 1, b, by go_num, by go_num, by omega, by omega, hbN, by omega, Lib.hid (by omega), HC2, HBd⟩
      · have HK := Lib.hid hK
        have HG : Hid (¬ a < M ∨ (a < M ∧ ∃ y, y ≠ i ∧ kept[a]? = some y)) := Lib.hid (by
          by_cases h : a < M
          · right
            refine ⟨h, kept[a]'(by rw [HN5.out]; exact h), fun e => hK ?_, List.getElem?_eq_getElem _⟩
            rw [← e]; exact List.getElem?_eq_getElem _
          · exact .inl h)
        clear hK
        rcases HG.out with hg | ⟨hg, y, hy, hky⟩
        · have haz : ¬ (a : Int) < (M : Int) := by omega
          have hazd : decide ((a : Int) < (M : Int)) = false := decide_eq_false haz
          have hazn : decide (a < M) = false := decide_eq_false hg
          clear HG
          go_wp2_with fail
          go_quiet (fail)
          go_upto_region 11 with (fail)
          obtain ⟨wy, hwy⟩ : ∃ wy, wy = wr.drewN nq := ⟨_, rfl⟩
          have HBy : Below wr.heap.size wr wy := by rw [hwy]; exact below_drewN (Below.refl _ _) _
          rw [← hwy]
          clear hwy
          have HB := Lib.hid (HB.out.trans (HBy.mono HB.out.size))
          have hio0 : wy.cell? ⟨bo, oo + k, none⟩ = some (.int .i64 i) := (HBy.cell hbo).trans hio0
          have hbo : bo < wy.heap.size := Nat.lt_of_lt_of_le hbo HBy.size
          clear HBy
          rcases Nat.lt_or_ge b Nc with h0 | h0
          case inr =>
            have HT : Hid (chkB js sup ord' kept C = false) := Lib.hid (chkB_bad HI.out HC.out HK.out (by rw [List.getElem?_eq_none (by rw [HN6.out]; omega)]; exact fun h => h))
            have HBw := Lib.hid (below_then B2.out HB.out)
            have hab := HAB.out
            have hz : (Nc : Int) ≤ (k : Int) - (a : Int) := by omega
            have hzd : decide ((Nc : Int) ≤ (k : Int) - (a : Int)) = true := decide_eq_true hz
            clear HC HB h0 hab
            go_wp2_with fail
            go_quiet (fail)
            go_wp2
            go_ret
            exact ⟨ret_bool HT.out.symm, below_drewN HBw.out _⟩
          have hab := HAB.out
          have hz : ¬ (Nc : Int) ≤ (k : Int) - (a : Int) := by omega
          obtain ⟨bc, oc, v, cu, hAb, lc0, hcu, v0, v1, hrow⟩ := (HR6.out.keep HB.out).at_ (k := b) (by rw [HN6.out]; omega)
          subst hAb
          have lc : bc < wy.heap.size := lc0
          have HCU := Lib.hid hcu
          have HV := Lib.hid hrow
          have HKT := Lib.hid (rd_take (HR5.out.keep HB.out) a)
          have HKL : Hid ((kept.take a).length = a) := Lib.hid (by rw [List.length_take, HN5.out]; omega)
          have HR := Lib.hid (HR.out.keep HB.out)
          have HR2 := Lib.hid (HR2.out.keep HB.out)
          have haz2 : (a : Int) ≤ (c5 : Int) := by omega
          have ha0 : (0 : Int) ≤ (a : Int) := by omega
          have hat0 : (k : Int) - (a : Int) = (b : Int) := by omega
          clear hcu hrow lc0 hab
          refine region_z (S := fun w' => Below wy.heap.size wy w') [] (by kernel_rfl) (Below.refl _ _).drew (fun hHeld => ?_)
          refine wpAnyZ_take (i := 0) (v := .int .i64 b) [] rfl (by kernel_rfl) (by kernel_rfl) (by kernel_rfl) (by kernel_rfl) (fun _ _ _ h => h) (Or.inl ⟨by kernel_rfl, fun w' hSw => ?_⟩) hHeld ?_
          · clear hHeld
            go_simp
          simp only [Act.put, List.setIfInBounds_toArray, List.set_cons_zero, List.set_cons_succ]
          refine wpAnyZ_take (i := 1) (v := .slice (some ⟨bc, oc, none⟩) Nc c6) [] rfl (by kernel_rfl) (by kernel_rfl) (by kernel_rfl) (by kernel_rfl) (fun _ _ _ h => h) (Or.inl ⟨by kernel_rfl, fun w' hSw => ?_⟩) hHeld ?_
          · clear hHeld
            go_simp
          simp only [Act.put, List.setIfInBounds_toArray, List.set_cons_zero, List.set_cons_succ]
          refine wpAnyZ_take (i := 2) (v := .int .i64 Nc) [] rfl (by kernel_rfl) (by kernel_rfl) (by kernel_rfl) (by kernel_rfl) (fun _ _ _ h => h) (Or.inl ⟨by kernel_rfl, fun w' hSw => ?_⟩) hHeld ?_
          · clear hHeld
            go_simp
          simp only [Act.put, List.setIfInBounds_toArray, List.set_cons_zero, List.set_cons_succ]
          refine wpAnyZ_take (i := 3) (v := .bool false) [] rfl (by kernel_rfl) (by kernel_rfl) (by kernel_rfl) (by kernel_rfl) (fun _ _ _ h => h) (Or.inl ⟨by kernel_rfl, fun w' hSw => ?_⟩) hHeld ?_
          · clear hHeld
            go_simp
            first | done | omega | (simp; omega)
          simp only [Act.put, List.setIfInBounds_toArray, List.set_cons_zero, List.set_cons_succ]
          refine wpAnyZ_take (i := 4) (v := .bool false) [] rfl (by kernel_rfl) (by kernel_rfl) (by kernel_rfl) (by kernel_rfl) (fun _ _ _ h => h) (Or.inl ⟨by kernel_rfl, fun w' hSw => ?_⟩) hHeld ?_
          · clear hHeld
            go_simp
          simp only [Act.put, List.setIfInBounds_toArray, List.set_cons_zero, List.set_cons_succ]
          refine wpAnyZ_take (i := 5) (v := .slice A N c) [] rfl (by kernel_rfl) (by kernel_rfl) (by kernel_rfl) (by kernel_rfl) (fun _ _ _ h => h) (Or.inl ⟨by kernel_rfl, fun w' hSw => ?_⟩) hHeld ?_
          · clear hHeld
            go_simp
          simp only [Act.put, List.setIfInBounds_toArray, List.set_cons_zero, List.set_cons_succ]
          refine wpAnyZ_take (i := 6) (v := .slice A2 T c2) [] rfl (by kernel_rfl) (by kernel_rfl) (by kernel_rfl) (by kernel_rfl) (fun _ _ _ h => h) (Or.inl ⟨by kernel_rfl, fun w' hSw => ?_⟩) hHeld ?_
          · clear hHeld
            go_simp
          simp only [Act.put, List.setIfInBounds_toArray, List.set_cons_zero, List.set_cons_succ]
          refine wpAnyZ_take (i := 7) (v := .slice (some ⟨bc, oc, none⟩) Nc c6) [] rfl (by kernel_rfl) (by kernel_rfl) (by kernel_rfl) (by kernel_rfl) (fun _ _ _ h => h) (Or.inl ⟨by kernel_rfl, fun w' hSw => ?_⟩) hHeld ?_
          · clear hHeld
            go_simp
          simp only [Act.put, List.setIfInBounds_toArray, List.set_cons_zero, List.set_cons_succ]
          refine wpAnyZ_take (i := 8) (v := .int .i64 b) [] rfl (by kernel_rfl) (by kernel_rfl) (by kernel_rfl) (by kernel_rfl) (fun _ _ _ h => h) (Or.inl ⟨by kernel_rfl, fun w' hSw => ?_⟩) hHeld ?_
          · clear hHeld
            go_simp
          simp only [Act.put, List.setIfInBounds_toArray, List.set_cons_zero, List.set_cons_succ]
          refine wpAnyZ_take (i := 9) (v := .pointer (some ⟨bc, oc + b * 2, none⟩)) [] rfl (by kernel_rfl) (by kernel_rfl) (by kernel_rfl) (by kernel_rfl) (fun _ _ _ h => h) (Or.inl ⟨by kernel_rfl, fun w' hSw => ?_⟩) hHeld ?_
          · clear hHeld
            go_simp
          simp only [Act.put, List.setIfInBounds_toArray, List.set_cons_zero, List.set_cons_succ]
          refine wpAnyZ_take (i := 10) (v := .agg #[.slice v.a v.n v.c, .slice v.a' v.n' v.c']) [] rfl (by kernel_rfl) (by kernel_rfl) (by kernel_rfl) (by kernel_rfl) (fun _ _ _ h => h) (Or.inl ⟨by kernel_rfl, fun w' hSw => ?_⟩) hHeld ?_
          · clear hHeld
            have s0 := (hSw.cell (p := ⟨bc, oc + b * 2, none⟩) lc).trans v0
            have s1 := (hSw.cell (p := ⟨bc, oc + b * 2 + 1, none⟩) lc).trans v1
            go_simp
          simp only [Act.put, List.setIfInBounds_toArray, List.set_cons_zero, List.set_cons_succ]
          refine wpAnyZ_take (i := 11) (v := .slice (some ⟨bo, oo, none⟩) N dord) [] rfl (by kernel_rfl) (by kernel_rfl) (by kernel_rfl) (by kernel_rfl) (fun _ _ _ h => h) (Or.inl ⟨by kernel_rfl, fun w' hSw => ?_⟩) hHeld ?_
          · clear hHeld
            go_simp
          simp only [Act.put, List.setIfInBounds_toArray, List.set_cons_zero, List.set_cons_succ]
          refine wpAnyZ_take (i := 12) (v := .int .i64 k) [] rfl (by kernel_rfl) (by kernel_rfl) (by kernel_rfl) (by kernel_rfl) (fun _ _ _ h => h) (Or.inl ⟨by kernel_rfl, fun w' hSw => ?_⟩) hHeld ?_
          · clear hHeld
            go_simp
          simp only [Act.put, List.setIfInBounds_toArray, List.set_cons_zero, List.set_cons_succ]
          refine wpAnyZ_take (i := 13) (v := .pointer (some ⟨bo, oo + k, none⟩)) [] rfl (by kernel_rfl) (by kernel_rfl) (by kernel_rfl) (by kernel_rfl) (fun _ _ _ h => h) (Or.inl ⟨by kernel_rfl, fun w' hSw => ?_⟩) hHeld ?_
          · clear hHeld
            go_simp
          simp only [Act.put, List.setIfInBounds_toArray, List.set_cons_zero, List.set_cons_succ]
          refine wpAnyZ_take (i := 14) (v := .int .i64 i) [] rfl (by kernel_rfl) (by kernel_rfl) (by kernel_rfl) (by kernel_rfl) (fun _ _ _ h => h) (Or.inl ⟨by kernel_rfl, fun w' hSw => ?_⟩) hHeld ?_
          · clear hHeld
            have s0 := (hSw.cell (p := ⟨bo, oo + k, none⟩) hbo).trans hio0
            go_simp
          simp only [Act.put, List.setIfInBounds_toArray, List.set_cons_zero, List.set_cons_succ]
          refine wpAnyZ_take (i := 15) (v := .slice A5 M c5) [] rfl (by kernel_rfl) (by kernel_rfl) (by kernel_rfl) (by kernel_rfl) (fun _ _ _ h => h) (Or.inl ⟨by kernel_rfl, fun w' hSw => ?_⟩) hHeld ?_
          · clear hHeld
            go_simp
          simp only [Act.put, List.setIfInBounds_toArray, List.set_cons_zero, List.set_cons_succ]
          refine wpAnyZ_take (i := 16) (v := .int .i64 a) [] rfl (by kernel_rfl) (by kernel_rfl) (by kernel_rfl) (by kernel_rfl) (fun _ _ _ h => h) (Or.inl ⟨by kernel_rfl, fun w' hSw => ?_⟩) hHeld ?_
          · clear hHeld
            go_simp
          simp only [Act.put, List.setIfInBounds_toArray, List.set_cons_zero, List.set_cons_succ]
          refine wpAnyZ_take (i := 17) (v := .slice A5 a c5) [] rfl (by kernel_rfl) (by kernel_rfl) (by kernel_rfl) (by kernel_rfl) (fun _ _ _ h => h) (Or.inl ⟨by kernel_rfl, fun w' hSw => ?_⟩) hHeld ?_
          · clear hHeld
            go_simp
            first | done | (cases A5 <;> simp [Addr.add]) | (split <;> (cases A5 <;> simp [Addr.add]))
          simp only [Act.put, List.setIfInBounds_toArray, List.set_cons_zero, List.set_cons_succ]
          refine wpAnyZ_one (i := 18) (by kernel_rfl) rfl (fun K' hK => ?_)
          rw [if_pos (by kernel_rfl)]
          go_simp
          refine (rrExpl_any A A2 v.a v.a' A5 c N c2 T v.c v.n v.c' v.n' c5 a js sup cu.1 cu.2 (kept.take a) i _ (HR.out.keep hHeld) HN hl (HR2.out.keep hHeld) HN2 hl2 (HV.out.2.2.1.keep hHeld) (Lib.hid HV.out.1) HV.out.2.1 (HV.out.2.2.2.2.2.keep hHeld) (Lib.hid HV.out.2.2.2.1) HV.out.2.2.2.2.1 (HKT.out.keep hHeld) HKL (by omega)).mono ?_
          rintro e y1 ⟨rfl, hb1⟩
          have hHeld' := below_then hHeld hb1
          clear hHeld hb1
          refine hK.out _ _ ?_ (fun hHeld => ?_)
          · exact hHeld'
          clear hK K'
          try simp only [Act.put, List.setIfInBounds_toArray, List.set_cons_zero, List.set_cons_succ]
          clear hHeld'
          refine wpAnyZ_take (i := 19) (v := .bool (!(explB js sup cu i (kept.take a)))) [] rfl (by kernel_rfl) (by kernel_rfl) (by kernel_rfl) (by kernel_rfl) (fun _ _ _ h => h) (Or.inl ⟨by kernel_rfl, fun w' hSw => ?_⟩) hHeld ?_
          · clear hHeld
            go_simp
          simp only [Act.put, List.setIfInBounds_toArray, List.set_cons_zero, List.set_cons_succ]
          refine wpAnyZ_one (i := 20) (by kernel_rfl) rfl (fun K' hK => ?_)
          go_simp
          refine hK.out _ _ ?_ (fun hHeld => ?_)
          · exact hHeld
          clear hK K'
          try simp only [Act.put, List.setIfInBounds_toArray, List.set_cons_zero, List.set_cons_succ]
          refine wpAnyZ_done (by kernel_rfl) ?_ _
          have HB2 := Lib.hid (HB.out.trans (hHeld.mono HB.out.size))
          clear hHeld HB
          go_step
          cases hx : explB js sup cu i (kept.take a)
          · have HT : Hid (chkB js sup ord' kept C = false) := Lib.hid (chkB_bad HI.out HC.out HK.out (by rw [HCU.out]; exact fun h => by have := explB_iff.2 h; rw [hx] at this; cases this))
            have HBw := Lib.hid (below_then B2.out HB2.out)
            clear HC HB2 HR HR2 hx
            go_wp2_with fail
            go_ret
            exact ⟨ret_bool HT.out.symm, HBw.out⟩
          · have HC2 : Hid (chkTo js sup kept C ord' (k + 1) = some (a, b + 1)) := Lib.hid (by rw [chkTo_succ HI.out, HC.out, stepC_cut HK.out (by rw [HCU.out]; exact explB_iff.1 hx)])
            clear HC HR HR2 hx v0 v1
            go_wp2_with fail
            go_roundg (N - (k + 1))
            case measure => omega
            case rel => have hab := HAB.out; exact ⟨k + 1, a, b + 1, by go_num, rfl, by omega, by omega, by omega, haM, Lib.hid (by omega), HC2, HB2⟩
        · have haz : (a : Int) < (M : Int) := by omega
          have hazd : decide ((a : Int) < (M : Int)) = true := decide_eq_true haz
          have hazn : decide (a < M) = true := decide_eq_true hg
          obtain ⟨b5, o5, h5, hb5, hc5⟩ := (HR5.out.keep HB.out).int (k := a) (by rw [HN5.out]; exact hg)
          have hc5' : wr.cell? ⟨b5, o5 + a, none⟩ = some (.int .i64 y) := by rw [hc5, hky]; rfl
          have hyi : (y == i) = false := by simp [hy]
          clear hc5 hky hy HG
          subst h5
          go_wp2_with fail
          go_quiet (fail)
          clear hyi
          go_upto_region 11 with (fail)
          obtain ⟨wy, hwy⟩ : ∃ wy, wy = wr.drewN nq := ⟨_, rfl⟩
          have HBy : Below wr.heap.size wr wy := by rw [hwy]; exact below_drewN (Below.refl _ _) _
          rw [← hwy]
          clear hwy
          have HB := Lib.hid (HB.out.trans (HBy.mono HB.out.size))
          have hio0 : wy.cell? ⟨bo, oo + k, none⟩ = some (.int .i64 i) := (HBy.cell hbo).trans hio0
          have hbo : bo < wy.heap.size := Nat.lt_of_lt_of_le hbo HBy.size
          clear HBy
          rcases Nat.lt_or_ge b Nc with h0 | h0
          case inr =>
            have HT : Hid (chkB js sup ord' kept C = false) := Lib.hid (chkB_bad HI.out HC.out HK.out (by rw [List.getElem?_eq_none (by rw [HN6.out]; omega)]; exact fun h => h))
            have HBw := Lib.hid (below_then B2.out HB.out)
            have hab := HAB.out
            have hz : (Nc : Int) ≤ (k : Int) - (a : Int) := by omega
            have hzd : decide ((Nc : Int) ≤ (k : Int) - (a : Int)) = true := decide_eq_true hz
            clear HC HB h0 hab
            go_wp2_with fail
            go_quiet (fail)
            go_wp2
            go_ret
            exact ⟨ret_bool HT.out.symm, below_drewN HBw.out _⟩
          have hab := HAB.out
          have hz : ¬ (Nc : Int) ≤ (k : Int) - (a : Int) := by omega
          obtain ⟨bc, oc, v, cu, hAb, lc0, hcu, v0, v1, hrow⟩ := (HR6.out.keep HB.out).at_ (k := b) (by rw [HN6.out]; omega)
          subst hAb
          have lc : bc < wy.heap.size := lc0
          have HCU := Lib.hid hcu
          have HV := Lib.hid hrow
          have HKT := Lib.hid (rd_take (HR5.out.keep HB.out) a)
          have HKL : Hid ((kept.take a).length = a) := Lib.hid (by rw [List.length_take, HN5.out]; omega)
          have HR := Lib.hid (HR.out.keep HB.out)
          have HR2 := Lib.hid (HR2.out.keep HB.out)
          have haz2 : (a : Int) ≤ (c5 : Int) := by omega
          have ha0 : (0 : Int) ≤ (a : Int) := by omega
          have hat0 : (k : Int) - (a : Int) = (b : Int) := by omega
          clear hcu hrow lc0 hab
          refine region_z (S := fun w' => Below wy.heap.size wy w') [] (by kernel_rfl) (Below.refl _ _).drew (fun hHeld => ?_)
          refine wpAnyZ_take (i := 0) (v := .int .i64 b) [] rfl (by kernel_rfl) (by kernel_rfl) (by kernel_rfl) (by kernel_rfl) (fun _ _ _ h => h) (Or.inl ⟨by kernel_rfl, fun w' hSw => ?_⟩) hHeld ?_
          · clear hHeld
            go_simp
          simp only [Act.put, List.setIfInBounds_toArray, List.set_cons_zero, List.set_cons_succ]
          refine wpAnyZ_take (i := 1) (v := .slice (some ⟨bc, oc, none⟩) Nc c6) [] rfl (by kernel_rfl) (by kernel_rfl) (by kernel_rfl) (by kernel_rfl) (fun _ _ _ h => h) (Or.inl ⟨by kernel_rfl, fun w' hSw => ?_⟩) hHeld ?_
          · clear hHeld
            go_simp
          simp only [Act.put, List.setIfInBounds_toArray, List.set_cons_zero, List.set_cons_succ]
          refine wpAnyZ_take (i := 2) (v := .int .i64 Nc) [] rfl (by kernel_rfl) (by kernel_rfl) (by kernel_rfl) (by kernel_rfl) (fun _ _ _ h => h) (Or.inl ⟨by kernel_rfl, fun w' hSw => ?_⟩) hHeld ?_
          · clear hHeld
            go_simp
          simp only [Act.put, List.setIfInBounds_toArray, List.set_cons_zero, List.set_cons_succ]
          refine wpAnyZ_take (i := 3) (v := .bool false) [] rfl (by kernel_rfl) (by kernel_rfl) (by kernel_rfl) (by kernel_rfl) (fun _ _ _ h => h) (Or.inl ⟨by kernel_rfl, fun w' hSw => ?_⟩) hHeld ?_
          · clear hHeld
            go_simp
            first | done | omega | (simp; omega)
          simp only [Act.put, List.setIfInBounds_toArray, List.set_cons_zero, List.set_cons_succ]
          refine wpAnyZ_take (i := 4) (v := .bool false) [] rfl (by kernel_rfl) (by kernel_rfl) (by kernel_rfl) (by kernel_rfl) (fun _ _ _ h => h) (Or.inl ⟨by kernel_rfl, fun w' hSw => ?_⟩) hHeld ?_
          · clear hHeld
            go_simp
          simp only [Act.put, List.setIfInBounds_toArray, List.set_cons_zero, List.set_cons_succ]
          refine wpAnyZ_take (i := 5) (v := .slice A N c) [] rfl (by kernel_rfl) (by kernel_rfl) (by kernel_rfl) (by kernel_rfl) (fun _ _ _ h => h) (Or.inl ⟨by kernel_rfl, fun w' hSw => ?_⟩) hHeld ?_
          · clear hHeld
            go_simp
          simp only [Act.put, List.setIfInBounds_toArray, List.set_cons_zero, List.set_cons_succ]
          refine wpAnyZ_take (i := 6) (v := .slice A2 T c2) [] rfl (by kernel_rfl) (by kernel_rfl) (by kernel_rfl) (by kernel_rfl) (fun _ _ _ h => h) (Or.inl ⟨by kernel_rfl, fun w' hSw => ?_⟩) hHeld ?_
          · clear hHeld
            go_simp
          simp only [Act.put, List.setIfInBounds_toArray, List.set_cons_zero, List.set_cons_succ]
          refine wpAnyZ_take (i := 7) (v := .slice (some ⟨bc, oc, none⟩) Nc c6) [] rfl (by kernel_rfl) (by kernel_rfl) (by kernel_rfl) (by kernel_rfl) (fun _ _ _ h => h) (Or.inl ⟨by kernel_rfl, fun w' hSw => ?_⟩) hHeld ?_
          · clear hHeld
            go_simp
          simp only [Act.put, List.setIfInBounds_toArray, List.set_cons_zero, List.set_cons_succ]
          refine wpAnyZ_take (i := 8) (v := .int .i64 b) [] rfl (by kernel_rfl) (by kernel_rfl) (by kernel_rfl) (by kernel_rfl) (fun _ _ _ h => h) (Or.inl ⟨by kernel_rfl, fun w' hSw => ?_⟩) hHeld ?_
          · clear hHeld
            go_simp
          simp only [Act.put, List.setIfInBounds_toArray, List.set_cons_zero, List.set_cons_succ]
          refine wpAnyZ_take (i := 9) (v := .pointer (some ⟨bc, oc + b * 2, none⟩)) [] rfl (by kernel_rfl) (by kernel_rfl) (by kernel_rfl) (by kernel_rfl) (fun _ _ _ h => h) (Or.inl ⟨by kernel_rfl, fun w' hSw => ?_⟩) hHeld ?_
          · clear hHeld
            go_simp
          simp only [Act.put, List.setIfInBounds_toArray, List.set_cons_zero, List.set_cons_succ]
          refine wpAnyZ_take (i := 10) (v := .agg #[.slice v.a v.n v.c, .slice v.a' v.n' v.c']) [] rfl (by kernel_rfl) (by kernel_rfl) (by kernel_rfl) (by kernel_rfl) (fun _ _ _ h => h) (Or.inl ⟨by kernel_rfl, fun w' hSw => ?_⟩) hHeld ?_
          · clear hHeld
            have s0 := (hSw.cell (p := ⟨bc, oc + b * 2, none⟩) lc).trans v0
            have s1 := (hSw.cell (p := ⟨bc, oc + b * 2 + 1, none⟩) lc).trans v1
            go_simp
          simp only [Act.put, List.setIfInBounds_toArray, List.set_cons_zero, List.set_cons_succ]
          refine wpAnyZ_take (i := 11) (v := .slice (some ⟨bo, oo, none⟩) N dord) [] rfl (by kernel_rfl) (by kernel_rfl) (by kernel_rfl) (by kernel_rfl) (fun _ _ _ h => h) (Or.inl ⟨by kernel_rfl, fun w' hSw => ?_⟩) hHeld ?_
          · clear hHeld
            go_simp
          simp only [Act.put, List.setIfInBounds_toArray, List.set_cons_zero, List.set_cons_succ]
          refine wpAnyZ_take (i := 12) (v := .int .i64 k) [] rfl (by kernel_rfl) (by kernel_rfl) (by kernel_rfl) (by kernel_rfl) (fun _ _ _ h => h) (Or.inl ⟨by kernel_rfl, fun w' hSw => ?_⟩) hHeld ?_
          · clear hHeld
            go_simp
          simp only [Act.put, List.setIfInBounds_toArray, List.set_cons_zero, List.set_cons_succ]
          refine wpAnyZ_take (i := 13) (v := .pointer (some ⟨bo, oo + k, none⟩)) [] rfl (by kernel_rfl) (by kernel_rfl) (by kernel_rfl) (by kernel_rfl) (fun _ _ _ h => h) (Or.inl ⟨by kernel_rfl, fun w' hSw => ?_⟩) hHeld ?_
          · clear hHeld
            go_simp
          simp only [Act.put, List.setIfInBounds_toArray, List.set_cons_zero, List.set_cons_succ]
          refine wpAnyZ_take (i := 14) (v := .int .i64 i) [] rfl (by kernel_rfl) (by kernel_rfl) (by kernel_rfl) (by kernel_rfl) (fun _ _ _ h => h) (Or.inl ⟨by kernel_rfl, fun w' hSw => ?_⟩) hHeld ?_
          · clear hHeld
            have s0 := (hSw.cell (p := ⟨bo, oo + k, none⟩) hbo).trans hio0
            go_simp
          simp only [Act.put, List.setIfInBounds_toArray, List.set_cons_zero, List.set_cons_succ]
          refine wpAnyZ_take (i := 15) (v := .slice (some ⟨b5, o5, none⟩) M c5) [] rfl (by kernel_rfl) (by kernel_rfl) (by kernel_rfl) (by kernel_rfl) (fun _ _ _ h => h) (Or.inl ⟨by kernel_rfl, fun w' hSw => ?_⟩) hHeld ?_
          · clear hHeld
            go_simp
          simp only [Act.put, List.setIfInBounds_toArray, List.set_cons_zero, List.set_cons_succ]
          refine wpAnyZ_take (i := 16) (v := .int .i64 a) [] rfl (by kernel_rfl) (by kernel_rfl) (by kernel_rfl) (by kernel_rfl) (fun _ _ _ h => h) (Or.inl ⟨by kernel_rfl, fun w' hSw => ?_⟩) hHeld ?_
          · clear hHeld
            go_simp
          simp only [Act.put, List.setIfInBounds_toArray, List.set_cons_zero, List.set_cons_succ]
          refine wpAnyZ_take (i := 17) (v := .slice (some ⟨b5, o5, none⟩) a c5) [] rfl (by kernel_rfl) (by kernel_rfl) (by kernel_rfl) (by kernel_rfl) (fun _ _ _ h => h) (Or.inl ⟨by kernel_rfl, fun w' hSw => ?_⟩) hHeld ?_
          · clear hHeld
            go_simp
            first | done | (simp [Addr.add]) | (split <;> (simp [Addr.add]))
          simp only [Act.put, List.setIfInBounds_toArray, List.set_cons_zero, List.set_cons_succ]
          refine wpAnyZ_one (i := 18) (by kernel_rfl) rfl (fun K' hK => ?_)
          rw [if_pos (by kernel_rfl)]
          go_simp
          refine (rrExpl_any A A2 v.a v.a' (some ⟨b5, o5, none⟩) c N c2 T v.c v.n v.c' v.n' c5 a js sup cu.1 cu.2 (kept.take a) i _ (HR.out.keep hHeld) HN hl (HR2.out.keep hHeld) HN2 hl2 (HV.out.2.2.1.keep hHeld) (Lib.hid HV.out.1) HV.out.2.1 (HV.out.2.2.2.2.2.keep hHeld) (Lib.hid HV.out.2.2.2.1) HV.out.2.2.2.2.1 (HKT.out.keep hHeld) HKL (by omega)).mono ?_
          rintro e y1 ⟨rfl, hb1⟩
          have hHeld' := below_then hHeld hb1
          clear hHeld hb1
          refine hK.out _ _ ?_ (fun hHeld => ?_)
          · exact hHeld'
          clear hK K'
          try simp only [Act.put, List.setIfInBounds_toArray, List.set_cons_zero, List.set_cons_succ]
          clear hHeld'
          refine wpAnyZ_take (i := 19) (v := .bool (!(explB js sup cu i (kept.take a)))) [] rfl (by kernel_rfl) (by kernel_rfl) (by kernel_rfl) (by kernel_rfl) (fun _ _ _ h => h) (Or.inl ⟨by kernel_rfl, fun w' hSw => ?_⟩) hHeld ?_
          · clear hHeld
            go_simp
          simp only [Act.put, List.setIfInBounds_toArray, List.set_cons_zero, List.set_cons_succ]
          refine wpAnyZ_one (i := 20) (by kernel_rfl) rfl (fun K' hK => ?_)
          go_simp
          refine hK.out _ _ ?_ (fun hHeld => ?_)
          · exact hHeld
          clear hK K'
          try simp only [Act.put, List.setIfInBounds_toArray, List.set_cons_zero, List.set_cons_succ]
          refine wpAnyZ_done (by kernel_rfl) ?_ _
          have HB2 := Lib.hid (HB.out.trans (hHeld.mono HB.out.size))
          clear hHeld HB
          go_step
          cases hx : explB js sup cu i (kept.take a)
          · have HT : Hid (chkB js sup ord' kept C = false) := Lib.hid (chkB_bad HI.out HC.out HK.out (by rw [HCU.out]; exact fun h => by have := explB_iff.2 h; rw [hx] at this; cases this))
            have HBw := Lib.hid (below_then B2.out HB2.out)
            clear HC HB2 HR HR2 hx
            go_wp2_with fail
            go_ret
            exact ⟨ret_bool HT.out.symm, HBw.out⟩
          · have HC2 : Hid (chkTo js sup kept C ord' (k + 1) = some (a, b + 1)) := Lib.hid (by rw [chkTo_succ HI.out, HC.out, stepC_cut HK.out (by rw [HCU.out]; exact explB_iff.1 hx)])
            clear HC HR HR2 hx v0 v1
            go_wp2_with fail
            go_roundg (N - (k + 1))
            case measure => omega
            case rel => have hab := HAB.out; exact ⟨k + 1, a, b + 1, by go_num, rfl, by omega, by omega, by omega, haM, Lib.hid (by omega), HC2, HB2⟩
    · have hltz : ¬ (k : Int) < (N : Int) := by omega
      have hkN : k = ord'.length := by rw [HLO.out]; omega
      by_cases ha : a = M
      · subst ha
        have hC := HC.out
        rw [hkN] at hC
        have HV : Hid (ValidL js.length kept) := Lib.hid (fun x hx => HO.out.valid x (chk_sub (Nat.le_refl _) hC x (by rw [List.take_of_length_le (by rw [HN5.out]; omega)]; exact hx)))
        have HEND : Hid (∀ bb, MetB (someJ js kept) sup bb → bb = chkB js sup ord' kept C) := Lib.hid (by
          intro bb hm
          have hok2 : okP (someJ js kept) sup = true := okP_some HOK.out (fun x hx => HO.out.valid x (chk_sub (Nat.le_refl _) hC x (by rw [List.take_of_length_le (by rw [HN5.out]; omega)]; exact hx))) (by rw [HN5.out]; omega)
          rw [Bool.eq_iff_iff]
          refine ⟨fun h => chkB_iff.2 ⟨HOK.out, by rw [HN5.out, HN6.out, HN.out]; exact HS.out, ⟨b, by rw [HN5.out]; exact hC⟩, (hm.1 h).2⟩, fun h => hm.2 ⟨hok2, (chkB_iff.1 h).2.2.2⟩⟩)
        have HL2 : Hid ((someJ js kept).length = a) := Lib.hid (by rw [someJ_len, HN5.out])
        have HBw := Lib.hid (below_then B2.out HB.out)
        have hCall := Lib.hid (rrSome_any A A5 c N c5 a js kept wr (HR.out.keep HB.out) HN hl (HR5.out.keep HB.out) HN5 (by omega) HV)
        have HR2w := Lib.hid (HR2.out.keep HB.out)
        have hea : ((a : Int) == (a : Int)) = true := by simp
        clear hC HC HB
        go_wp2_with fail
        refine hCall.out.mono ?_
        rintro e w3 ⟨asx, ds, rfl, rs, hb3⟩
        have hCall2 := Lib.hid (rpMet_any asx A2 ds a c2 T (someJ js kept) sup w3 rs HL2 (by omega) (HR2w.out.keep hb3) HN2 hl2)
        have HB3 := Lib.hid (below_then HBw.out hb3)
        clear rs hb3 hCall
        go_wp2_with fail
        refine hCall2.out.mono ?_
        rintro e w4 ⟨bb, rfl, hm, hb4⟩
        have HE := Lib.hid (below_then HB3.out hb4)
        have HT := Lib.hid (HEND.out bb hm)
        clear hm hb4 hCall2
        go_wp2_with fail
        go_ret
        exact ⟨ret_bool HT.out, HE.out⟩
      · have haz : ¬ (a : Int) = (M : Int) := by omega
        have HF : Hid (chkB js sup ord' kept C = false) := Lib.hid (chkB_short (a := a) (b := b) (by rw [← hkN]; exact HC.out) (by rw [HN5.out]; exact ha))
        have HBw := Lib.hid (below_then B2.out HB.out)
        clear HC HB ha
        go_wp2_with fail
        go_ret
        exact ⟨ret_bool HF.out.symm, HBw.out⟩
end Go.Proofs.Ytgfcnkfmgpakkaa
/-
A list of cuts that grows: the rows' slices lie elsewhere than the list.
-/
namespace Go.Proofs.Ytgfcnkfmgpakkaa
open Go.RowKit
set_option linter.unusedVariables false
set_option linter.unusedSimpArgs false
/-- The slice with address a and length n does not lie in block q. -/
def OffB (a : Option Addr) (n : Nat) (q : Nat) : Prop := ∀ b, a = some b → 0 < n → b.block ≠ q
/-- A row of a list of cuts; block M is another's. -/
structure RowF (w : World) (M : Nat → Prop) (u : CutV) (c : List Int × List Int) : Prop where
  row : CutRow w u c
  o1 : ∀ q, M q → OffB u.a c.1.length q
  o2 : ∀ q, M q → OffB u.a' c.2.length q
theorem RowF.mod {w w' : World} {M M' : Nat → Prop} {u : CutV} {c : List Int × List Int} (h : RowF w M u c) (hm : Mod M' w w') (hs : ∀ q, M' q → M q) : RowF w' M u c :=
  ⟨⟨h.row.1, h.row.2.1, h.row.2.2.1.mod hm (fun a e h0 hq => h.o1 _ (hs _ hq) a e h0 rfl), h.row.2.2.2.1, h.row.2.2.2.2.1, h.row.2.2.2.2.2.mod hm (fun a e h0 hq => h.o2 _ (hs _ hq) a e h0 rfl)⟩, h.o1, h.o2⟩
theorem rd_lt {α : Type} {sz : Nat} {enc : α → List Value} {w : World} {A : Option Addr} {xs : List α} (h : Rd sz enc w A xs) (h0 : 0 < xs.length) : ∀ b, A = some b → b.block < w.heap.size := by
  intro b hb
  obtain ⟨b', off, e, hlt, _⟩ := h h0
  rw [hb] at e
  injection e with e
  rw [e]
  exact hlt
/-- An own list of cuts; P: blocks where no row lies. -/
structure OwnC (w : World) (base : Nat) (P : Nat → Prop) (v : Value) (C : List (List Int × List Int)) : Prop where
  out : ∃ vs : List CutV, OwnR 30 2 encCut w base v vs ∧ vs.length = C.length ∧ ∀ (k : Nat) (u : CutV) (c : List Int × List Int), vs[k]? = some u → C[k]? = some c → RowF w (fun q => P q ∨ v.ownBlock = some q) u c
theorem encCut_len (u : CutV) : (encCut u).length = 2 := rfl
theorem encCut_one (u : CutV) (x : Value) (h : x ∈ encCut u) : x.oneCell' = true := by
  simp [encCut] at h
  rcases h with rfl | rfl <;> rfl
theorem appInfoCut : (Try.prog.info? 30).map (fun i => (i.zero, i.size, i.bytes)) = some (some (.agg #[.slice none 0 0, .slice none 0 0]), 2, 48) := by kernel_rfl
theorem OwnC.nil (w : World) (base : Nat) (P : Nat → Prop) : OwnC w base P (.slice none 0 0) [] := ⟨[], OwnR.nil _ _, rfl, fun k u c h => by simp at h⟩
theorem OwnC.shape {w : World} {base : Nat} {P : Nat → Prop} {v : Value} {C : List (List Int × List Int)} (h : OwnC w base P v C) : ∃ a c, v = .slice a C.length c := by
  obtain ⟨vs, h1, h2, _⟩ := h.out
  obtain ⟨a, c, e⟩ := h1.shape
  exact ⟨a, c, by rw [e, h2]⟩
/-- The list stays where nothing of it is touched. -/
theorem OwnC.mod {w w' : World} {base : Nat} {P M : Nat → Prop} {v : Value} {C : List (List Int × List Int)} (h : OwnC w base P v C) (hm : Mod M w w') (hn : ∀ k, v.ownBlock = some k → ¬ M k) (hs : ∀ q, M q → P q ∨ w.heap.size ≤ q) : OwnC w' base P v C := by
  obtain ⟨vs, h1, h2, h3⟩ := h.out
  have hm' : Mod (fun q => P q ∨ v.ownBlock = some q) w w' := hm.mono (fun k hk hM => by
    rcases hs k hM with x | x
    · exact .inl x
    · omega)
  exact ⟨vs, h1.mod hm hn, h2, fun k u c e1 e2 => (h3 k u c e1 e2).mod hm' (fun q hq => hq)⟩
theorem OwnC.keep {w w' : World} {base : Nat} {P : Nat → Prop} {v : Value} {C : List (List Int × List Int)} (h : OwnC w base P v C) (hb : Below w.heap.size w w') : OwnC w' base P v C := by
  refine h.mod (Mod.of_below hb) (fun k hk => ?_) (fun q hq => .inr hq)
  obtain ⟨vs, h1, _, _⟩ := h.out
  have := (World.ownsRow.lt h1 k hk).2
  omega
theorem OwnC.rd {w : World} {base : Nat} {P : Nat → Prop} {v : Value} {C : List (List Int × List Int)} (h : OwnC w base P v C) : ∃ a c vs, v = .slice a C.length c ∧ C.length ≤ c ∧ RdC w a vs C := by
  obtain ⟨vs, h1, h2, h3⟩ := h.out
  obtain ⟨a, c, e, hc, r⟩ := h1.rdC encCut_len
  exact ⟨a, c, vs, by rw [e, h2], by omega, r, h2, fun k u c e1 e2 => (h3 k u c e1 e2).row⟩
/-- One cut more. -/
theorem app_cut {w : World} {base : Nat} {P : Nat → Prop} {v : Value} {C : List (List Int × List Int)} {u : CutV} {c : List Int × List Int} (h : OwnC w base P v C) (hb : base ≤ w.heap.size) (hl : C.length ≤ 100000) (hP : ∀ q, P q → q < w.heap.size)
    (hr : RowF w (fun q => P q ∨ v.ownBlock = some q) u c) :
    Appends Try.prog (w.alloc (.cells #[.slice u.a u.n u.c, .slice u.a' u.n' u.c'] 30)) 51 51 v (.slice (some ⟨w.heap.size, 0, none⟩) 1 1) ∧
    ∃ v' w1, appV Try.prog (w.alloc (.cells #[.slice u.a u.n u.c, .slice u.a' u.n' u.c'] 30)) 51 51 v (.slice (some ⟨w.heap.size, 0, none⟩) 1 1) = v' ∧
      appW Try.prog (w.alloc (.cells #[.slice u.a u.n u.c, .slice u.a' u.n' u.c'] 30)) 51 51 v (.slice (some ⟨w.heap.size, 0, none⟩) 1 1) = w1 ∧ Hid (OwnC w1 base P v' (C ++ [c])) ∧ Hid (Mod (fun k => v.ownBlock = some k) w w1) ∧ Hid (v'.ownBlock = v.ownBlock ∨ ∃ q, v'.ownBlock = some q ∧ w.heap.size ≤ q) := by
  obtain ⟨vs, h1, h2, h3⟩ := h.out
  have lit : Own (w.alloc (.cells #[.slice u.a u.n u.c, .slice u.a' u.n' u.c'] 30)) w.heap.size 30 2 (fun i => if i = 0 then .slice u.a u.n u.c else .slice u.a' u.n' u.c') := Own.newAt _ _ _ _ rfl (n := 2) rfl (fun i hi => by
    rcases i with _ | _ | i
    · rfl
    · rfl
    · omega)
  have rd : Rd 2 encCut (w.alloc (.cells #[.slice u.a u.n u.c, .slice u.a' u.n' u.c'] 30)) (some ⟨w.heap.size, 0, none⟩) [u] := by
    refine lit.rd (by simp) encCut_len (fun k x hx j v hv => ?_)
    obtain rfl : k = 0 := by
      rcases k with _ | k
      · rfl
      · simp at hx
    simp at hx
    subst hx
    rcases j with _ | _ | j
    · simpa [encCut] using hv
    · simpa [encCut] using hv
    · simp [encCut] at hv
  obtain ⟨g1, v', w1, e1, e2, e3, e4, e5⟩ := app_rows (P := Try.prog) (ty := 51) (c := 1) (m := 1) appInfoCut Try.underlying51 rfl (by omega) encCut_len encCut_one (h1.alloc _) rd rfl ⟨_, rfl⟩ (by simp; omega) (by unfold maxLen; omega) (by rw [h2]; omega)
  have hm : Mod (fun k => v.ownBlock = some k) w w1 := ((Mod.refl _ w).alloc _).trans e4
  have hold : ∀ x d, RowF w (fun q => P q ∨ v.ownBlock = some q) x d → RowF w1 (fun q => P q ∨ v'.ownBlock = some q) x d := by
    intro x d hx
    have hx1 := hx.mod hm (fun q hq => .inr hq)
    refine ⟨hx1.row, fun q hq => ?_, fun q hq => ?_⟩
    · rcases hq with hq | hq
      · exact hx.o1 q (.inl hq)
      · rcases e5 with y | y
        · exact hx.o1 q (.inr (by rw [← y]; exact hq))
        · intro b hb0 h0 he
          have := rd_lt hx.row.2.2.1 h0 b hb0
          rw [y] at hq
          injection hq with hq
          simp at hq
          omega
    · rcases hq with hq | hq
      · exact hx.o2 q (.inl hq)
      · rcases e5 with y | y
        · exact hx.o2 q (.inr (by rw [← y]; exact hq))
        · intro b hb0 h0 he
          have := rd_lt hx.row.2.2.2.2.2 h0 b hb0
          rw [y] at hq
          injection hq with hq
          simp at hq
          omega
  refine ⟨g1, v', w1, e1, e2, Lib.hid ⟨vs ++ [u], e3, by simp [h2], fun k x d hx hd => ?_⟩, Lib.hid hm, Lib.hid ?_⟩
  · rcases Nat.lt_or_ge k vs.length with hk | hk
    · rw [List.getElem?_append_left hk] at hx
      rw [List.getElem?_append_left (by omega)] at hd
      exact hold x d (h3 k x d hx hd)
    · rw [List.getElem?_append_right hk] at hx
      rw [List.getElem?_append_right (by omega)] at hd
      have hk0 : k - vs.length = 0 := by
        rcases hz : k - vs.length with _ | m
        · rfl
        · rw [hz] at hx; simp at hx
      rw [hk0] at hx
      rw [← h2, hk0] at hd
      simp at hx hd
      subst hx hd
      exact hold _ _ hr
  · rcases e5 with x | x
    · exact .inl x
    · exact .inr ⟨_, x, by simp⟩
end Go.Proofs.Ytgfcnkfmgpakkaa
/-
law29's job, usable; the reference's Few.
-/
namespace Go.Proofs.Ytgfcnkfmgpakkaa
open Go.RowKit
set_option linter.unusedVariables false
set_option linter.unusedSimpArgs false
set_option maxRecDepth 100000 in
theorem lrJob_any (a b : Int) (w : World) : Calls Try.prog 72 #[.int .i64 a, .int .i64 b] w fun e w' => e = .returned (.agg #[.int .i64 0, .int .i64 1, .int .i64 a, .int .i64 10, .int .i64 b]) ∧ Below w.heap.size w w' := by
  go_enter Try.func72, Try.ntmps72
  go_wp2_with fail
  go_returns
  refine ⟨rfl, ?_⟩
  repeat (first | exact Below.refl _ _ | refine Below.alloc ?_ (by simp) _)
/-- Few jobs, slots, kept ones, cuts. -/
def FewP (N T M : Nat) (C : List (List Int × List Int)) : Prop := (∀ c, c ∈ C → c.1.length ≤ 30 ∧ c.2.length ≤ 40) ∧ N ≤ 20 ∧ T ≤ 30 ∧ M ≤ 30 ∧ C.length ≤ 30
def FewPost (w : World) (N T M : Nat) (C : List (List Int × List Int)) (e : Ending) (w' : World) : Prop := ∃ b : Bool, e = .returned (.bool b) ∧ (b = true ↔ FewP N T M C) ∧ Below w.heap.size w w'
set_option maxRecDepth 100000 in
set_option maxHeartbeats 8000000 in
theorem rrFew_any (A A2 A5 A6 : Option Addr) (c N c2 T c5 M c6 Nc : Nat) (vs : List CutV) (C : List (List Int × List Int)) (w : World) (hl : N ≤ 9223372036854775807) (hl2 : T ≤ 9223372036854775807) (hl5 : M ≤ 9223372036854775807) (hR6 : RdC w A6 vs C) (HN6 : Hid (C.length = Nc)) (hl6 : Nc ≤ 9223372036854775807) :
    Calls Try.prog 36 #[.slice A N c, .slice A2 T c2, .slice A5 M c5, .slice A6 Nc c6] w (FewPost w N T M C) := by
  have HR6 := Lib.hid hR6
  clear hR6
  go_enter Try.func36, Try.ntmps36
  go_wp2
  go_loopg [9] Nc (fun g1 v9 wr => ∃ k : Nat, v9 = .int .i64 k ∧ k ≤ Nc ∧ Nc - k ≤ g1 ∧ Hid (∀ m x, m < k → C[m]? = some x → x.1.length ≤ 30 ∧ x.2.length ≤ 40) ∧ Hid (Below w.heap.size w wr))
  case atStart => exact ⟨0, by go_num, by omega, by omega, Lib.hid (fun m x hm => by omega), Lib.hid (Below.refl _ _)⟩
  case round =>
    obtain ⟨k, rfl, hk, hg1, HA, HB⟩ := hrel
    by_cases hlt : k < Nc
    · have hltz : (k : Int) < (Nc : Int) := by omega
      obtain ⟨bc, oc, v, x, hAb, lc0, hx, v0, v1, hrow⟩ := (HR6.out.keep HB.out).at_ (k := k) (by rw [HN6.out]; exact hlt)
      subst hAb
      have HX := Lib.hid hx
      have HV := Lib.hid hrow
      have hvn : v.n ≤ 9223372036854775807 := hrow.2.1
      have hvn2 : v.n' ≤ 9223372036854775807 := hrow.2.2.2.2.1
      have hno : ¬ (x.1.length ≤ 30 ∧ x.2.length ≤ 40) → ¬ FewP N T M C := fun h1 h2 => h1 (h2.1 x (List.mem_of_getElem? HX.out))
      have HNO := Lib.hid hno
      clear hx hrow hno
      by_cases h1 : v.n ≤ 30
      · by_cases h2 : v.n' ≤ 40
        · have h1z : ¬ (30 : Int) < (v.n : Int) := by omega
          have h2z : ¬ (40 : Int) < (v.n' : Int) := by omega
          have HA2 : Hid (∀ m y, m < k + 1 → C[m]? = some y → y.1.length ≤ 30 ∧ y.2.length ≤ 40) := Lib.hid (by
            intro m y hm hy
            by_cases e : m = k
            · subst e
              rw [HX.out] at hy
              injection hy with hy
              subst hy
              have ha := HV.out.1
              have hb := HV.out.2.2.2.1
              omega
            · exact HA.out m y (by omega) hy)
          clear HA
          go_wp2
          go_roundg (Nc - (k + 1))
          case measure => omega
          case rel => exact ⟨k + 1, by go_num, by omega, by omega, HA2, HB⟩
        · have h1z : ¬ (30 : Int) < (v.n : Int) := by omega
          have h2z : (40 : Int) < (v.n' : Int) := by omega
          have HF : Hid (¬ FewP N T M C) := Lib.hid (HNO.out (fun h => by have := HV.out.2.2.2.1; omega))
          clear HA
          go_wp2
          go_ret
          exact ⟨false, rfl, ⟨fun h => (by cases h), fun h => absurd h HF.out⟩, HB.out⟩
      · have h1z : (30 : Int) < (v.n : Int) := by omega
        have HF : Hid (¬ FewP N T M C) := Lib.hid (HNO.out (fun h => by have := HV.out.1; omega))
        clear HA
        go_wp2
        go_ret
        exact ⟨false, rfl, ⟨fun h => (by cases h), fun h => absurd h HF.out⟩, HB.out⟩
    · have hltz : ¬ (k : Int) < (Nc : Int) := by omega
      have hkn : k = Nc := by omega
      subst hkn
      have HALL : Hid (FewP N T M C ↔ (N ≤ 20 ∧ T ≤ 30 ∧ M ≤ 30 ∧ k ≤ 30)) := Lib.hid (by
        unfold FewP
        rw [HN6.out]
        refine ⟨fun h => h.2, fun h => ⟨fun x hx => ?_, h⟩⟩
        obtain ⟨m, hm⟩ := List.mem_iff_getElem?.1 hx
        exact HA.out m x (by rw [← HN6.out]; exact (List.getElem?_eq_some_iff.1 hm).1) hm)
      clear HA
      by_cases h1 : N ≤ 20
      · by_cases h2 : T ≤ 30
        · by_cases h3 : M ≤ 30
          · by_cases h4 : k ≤ 30
            · have z1 : (N : Int) ≤ 20 := by omega
              have z2 : (T : Int) ≤ 30 := by omega
              have z3 : (M : Int) ≤ 30 := by omega
              have z4 : (k : Int) ≤ 30 := by omega
              go_wp2
              go_ret
              exact ⟨true, rfl, ⟨fun _ => HALL.out.2 ⟨h1, h2, h3, h4⟩, fun _ => rfl⟩, HB.out⟩
            · have z1 : (N : Int) ≤ 20 := by omega
              have z2 : (T : Int) ≤ 30 := by omega
              have z3 : (M : Int) ≤ 30 := by omega
              have z4 : ¬ (k : Int) ≤ 30 := by omega
              go_wp2
              go_ret
              exact ⟨false, rfl, ⟨fun h => (by cases h), fun h => absurd (HALL.out.1 h).2.2.2 h4⟩, HB.out⟩
          · have z1 : (N : Int) ≤ 20 := by omega
            have z2 : (T : Int) ≤ 30 := by omega
            have z3 : ¬ (M : Int) ≤ 30 := by omega
            go_wp2
            go_ret
            exact ⟨false, rfl, ⟨fun h => (by cases h), fun h => absurd (HALL.out.1 h).2.2.1 h3⟩, HB.out⟩
        · have z1 : (N : Int) ≤ 20 := by omega
          have z2 : ¬ (T : Int) ≤ 30 := by omega
          go_wp2
          go_ret
          exact ⟨false, rfl, ⟨fun h => (by cases h), fun h => absurd (HALL.out.1 h).2.1 h2⟩, HB.out⟩
      · have z1 : ¬ (N : Int) ≤ 20 := by omega
        go_wp2
        go_ret
        exact ⟨false, rfl, ⟨fun h => (by cases h), fun h => absurd (HALL.out.1 h).1 h1⟩, HB.out⟩
/-- law29.usable: few and valid. -/
def UsePost (w : World) (js : List GJob) (sup : List Int) (e : Ending) (w' : World) : Prop := e = .returned (.bool (okP js sup)) ∧ Below w.heap.size w w'
set_option maxRecDepth 100000 in
set_option maxHeartbeats 4000000 in
theorem lrUsable_any (A A2 : Option Addr) (c N c2 T : Nat) (js : List GJob) (sup : List Int) (w : World) (hR : Rd 5 encJ w A js) (HN : Hid (js.length = N)) (hl : N ≤ 9223372036854775807) (hR2 : Rd 1 encI w A2 sup) (HN2 : Hid (sup.length = T)) (hl2 : T ≤ 9223372036854775807) :
    Calls Try.prog 42 #[.slice A N c, .slice A2 T c2] w (UsePost w js sup) := by
  go_enter Try.func42, Try.ntmps42
  go_wp2_with fail
  refine (rrFew_any A A2 none none c N c2 T 0 0 0 0 [] [] w hl hl2 (by omega) RdC.nil (Lib.hid rfl) (by omega)).mono ?_
  rintro e w1 ⟨b, rfl, hb, hb1⟩
  have HF := Lib.hid hb
  clear hb
  cases b
  · have HO : Hid (okP js sup = false) := Lib.hid (by
      cases h : okP js sup
      · rfl
      · obtain ⟨⟨t1, t2⟩, _, _⟩ := okP_iff.1 h
        rw [HN.out] at t1
        rw [HN2.out] at t2
        have := HF.out.2 ⟨fun x hx => by simp at hx, by omega, by omega, by omega, by simp⟩
        cases this)
    go_wp2_with fail
    go_ret
    exact ⟨ret_bool HO.out.symm, hb1⟩
  · have hR1 := hR.keep hb1
    have hR21 := hR2.keep hb1
    go_wp2_with fail
    refine (rpValid_any A A2 c N c2 T js sup w1 hR1 HN hl hR21 HN2 hl2).mono ?_
    rintro e w2 ⟨rfl, hb2⟩
    have HB := Lib.hid (below_then hb1 hb2)
    clear hb1 hb2 hR hR2 hR1 hR21
    go_wp2_with fail
    go_ret
    exact ⟨rfl, HB.out⟩
end Go.Proofs.Ytgfcnkfmgpakkaa
