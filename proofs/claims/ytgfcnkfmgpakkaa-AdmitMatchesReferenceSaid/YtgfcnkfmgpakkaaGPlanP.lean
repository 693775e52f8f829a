/-
Several texts in one: PlanP, PlanQ.
-/
import Derived.Test.YtgfcnkfmgpakkaaGPlanC
import Derived.Test.YtgfcnkfmgpakkaaGRefA
/-
Contract of the reference's CheckPlan.
-/
namespace Go.Proofs.Ytgfcnkfmgpakkaa
open Go.RowKit
set_option linter.unusedVariables false
set_option maxRecDepth 100000 in
set_option maxHeartbeats 4000000 in
theorem rpCheckPlan_any (A A2 A5 : Option Addr) (c N c2 T c5 N5 : Nat) (js : List GJob) (sup : List Int) (rs : List RowV) (ps : List (List Int)) (w : World) (hR : Rd 5 encJ w A js) (HN : Hid (js.length = N)) (hl : N ≤ 9223372036854775807) (hR2 : Rd 1 encI w A2 sup) (HN2 : Hid (sup.length = T)) (hl2 : T ≤ 9223372036854775807)
    (hR5 : RdP w A5 rs ps) (HN5 : Hid (ps.length = N5)) (hl5 : N5 ≤ 9223372036854775807) :
    Calls Try.prog 22 #[.slice A N c, .slice A2 T c2, .slice A5 N5 c5] w fun e w' => e = .returned (.bool (planB js sup ps)) ∧ Below w.heap.size w w' := by
  go_enter Try.func22, Try.ntmps22
  go_wp2_with fail
  refine (rpValid_any A A2 c N c2 T js sup _ hR HN hl hR2 HN2 hl2).mono ?_
  rintro e w1 ⟨rfl, hb1⟩
  cases hok : okP js sup
  · have HF : Hid (planB js sup ps = false) := Lib.hid (planB_not (fun h => by rw [hok] at h; exact absurd h.1 (by simp)))
    go_wp2
    go_ret
    exact ⟨ret_bool HF.out.symm, hb1⟩
  have HOK := Lib.hid hok
  obtain ⟨⟨t1, t2⟩, _, _⟩ := okP_iff.1 hok
  rw [HN.out] at t1
  rw [HN2.out] at t2
  clear hok
  by_cases h5 : N5 = N
  case neg =>
    have HF : Hid (planB js sup ps = false) := Lib.hid (planB_not (fun h => h5 (by rw [← HN.out, ← HN5.out]; exact h.2.1)))
    have hb : ((N5 : Int) == (N : Int)) = false := by rw [beq_eq_false_iff_ne]; omega
    go_wp2
    go_ret
    exact ⟨ret_bool HF.out.symm, hb1⟩
  subst h5
  obtain ⟨mb, hmk, hmb⟩ := mk_opq (P := Try.prog) 23 3 (.int .i64 0) 8 Try.underlying23 infoInt rfl T (by omega) (by omega)
  have HR := Lib.hid (hR.keep hb1)
  have HR2 := Lib.hid (hR2.keep hb1)
  have HR5 := Lib.hid (hR5.keep hb1)
  have HB1 := Lib.hid hb1
  have O0 : Hid (Own (w1.alloc (.cells mb 3)) w1.heap.size 3 T (fun t => .int .i64 (S 0 (fun i => pAt ps i t)))) := Lib.hid ((hmb w1 _ rfl).congr (fun i _ => rfl))
  have B0 : Hid (Below w1.heap.size w1 (w1.alloc (.cells mb 3))) := Lib.hid ((Below.refl _ w1).alloc (Nat.le_refl _) _)
  clear hR hR2 hR5 hb1 hmb
  go_wp2
  clear hmk
  go_loopg [9] N5 (fun g1 v9 wr => ∃ k : Nat, v9 = .int .i64 k ∧ k ≤ N5 ∧ N5 - k ≤ g1 ∧ Hid (∀ i, i < k → rowOk js ps sup.length i) ∧ Hid (Own wr w1.heap.size 3 T (fun t => .int .i64 (S k (fun i => pAt ps i t)))) ∧ Hid (Below w1.heap.size w1 wr))
  case atStart => exact ⟨0, by go_num, by omega, by omega, Lib.hid (fun i hi => absurd hi (Nat.not_lt_zero _)), O0, B0⟩
  case round =>
    clear O0 B0
    obtain ⟨k, rfl, hk, hg, HA, HO, HB⟩ := hrel
    by_cases hlt : k < N5
    · have hltz : (k : Int) < (N5 : Int) := by omega
      have hkj : k < js.length := by rw [HN.out]; exact hlt
      obtain ⟨b, off, j, hA, hbl, hj, g0, g1, g2, g3, g4⟩ := rdJ_at (HR.out.keep HB.out) (k := k) hkj
      have hjk : jAt js k = j := by simp [jAt, hj]
      have HJ := Lib.hid hjk
      obtain ⟨b5, o5, r, hA5, hbl5, hc5, hrn, hr63, _⟩ := (HR5.out.keep HB.out).at_ (k := k) (by rw [HN5.out]; exact hlt)
      by_cases hT : r.n = T
      case neg =>
        have HF : Hid (planB js sup ps = false) := Lib.hid (planB_row hkj (fun h => hT (by rw [← hrn, ← HN2.out]; exact h.1)))
        have hb : ((r.n : Int) == (T : Int)) = false := by rw [beq_eq_false_iff_ne]; omega
        subst hA5
        clear hj hjk hA g0 g1 g2 g3 g4 hrn
        go_wp2
        go_ret
        exact ⟨ret_bool HF.out.symm, below_then HB1.out HB.out⟩
      have hbT : ((r.n : Int) == (T : Int)) = true := by rw [hT]; simp
      have HrT : Hid ((rowAt ps k).length = T) := Lib.hid (by rw [hrn, hT])
      have jr : 0 ≤ j.rate ∧ j.rate ≤ 1000 := by have := okP_job HOK.out hkj; rw [hjk] at this; omega
      subst hA5
      clear hj hjk hA g0 g1 g2 g3 g4 hbl
      go_wp2
      clear hc5
      go_loopg [10, 11] T (fun g2 v10 v11 wr => ∃ m : Nat, v11 = .int .i64 m ∧ m ≤ T ∧ T - m ≤ g2 ∧ v10 = .int .i64 (S m (pAt ps k)) ∧ Hid (∀ t, t < m → okAt j t (pAt ps k t)) ∧ Hid (Own wr w1.heap.size 3 T (fun t => .int .i64 (S k (fun i => pAt ps i t) + pick (t < m) (pAt ps k t)))) ∧ Hid (Below w1.heap.size w1 wr))
      case atStart => exact ⟨0, by go_num, by omega, by omega, by go_num, Lib.hid (fun i hi => absurd hi (Nat.not_lt_zero _)), Lib.hid (HO.out.congr (fun i _ => by rw [pick_neg (Nat.not_lt_zero _)]; simp)), HB⟩
      case round =>
        clear HO HB
        obtain ⟨m, rfl, hm, hg2, rfl, HM, HO, HB⟩ := hrel
        have bm : 0 ≤ S m (pAt ps k) ∧ S m (pAt ps k) ≤ 24000 := by
          have h1 := S_nonneg (n := m) (g := pAt ps k) (fun i hi => (HM.out i hi).1)
          have h2 := S_bound (n := m) (g := pAt ps k) (c := 1000) (fun i hi => by have := (HM.out i hi).2.1; omega)
          omega
        obtain ⟨b, off, j', hA, hbl, hj, g0, g1, g2, g3, g4⟩ := rdJ_at (HR.out.keep HB.out) (k := k) hkj
        have hjj : j' = j := by have : jAt js k = j' := by simp [jAt, hj]
                                rw [← this]; exact HJ.out
        subst hjj
        obtain ⟨b5', o5', r', hA5, hbl5', hc5, hrn', hr63', hrow⟩ := (HR5.out.keep HB.out).at_ (k := k) (by rw [HN5.out]; exact hlt)
        injection hA5 with hA5
        injection hA5 with e1 e2
        subst e1 e2
        have hrT' : r'.n = T := by rw [← hrn']; exact HrT.out
        rw [hrT'] at hc5
        by_cases hmT : m < T
        · have hmz : (m : Int) < (T : Int) := by omega
          obtain ⟨b6, o6, hA6, hbl6, hc6⟩ := hrow.int (k := m) (by rw [HrT.out]; exact hmT)
          have hc6' : wr.cell? ⟨b6, o6 + m, none⟩ = some (.int .i64 (pAt ps k m)) := hc6
          rw [hA6] at hc5
          have bad : ¬ okAt j' m (pAt ps k m) → planB js sup ps = false := fun h => planB_row hkj (fun hh => h (by have := hh.2.1 m (by rw [HN2.out]; exact hmT); rwa [HJ.out] at this))
          have BAD := Lib.hid bad
          subst hA
          clear hc6 bad hj hrn' hrow hA6
          have hin : Hid (inJ j' m ↔ (j'.frm ≤ m ∧ (m : Int) < j'.till)) := Lib.hid Iff.rfl
          have bs := rows_bound HOK.out (ps := ps) (k := k) (by omega) HA.out (t := m) (by rw [HN2.out]; exact hmT)
          have x1 := HO.out.cell hmT
          rw [pick_neg (Nat.lt_irrefl _), Int.add_zero] at x1
          have x2 := HO.out.frozen m
          have Hs : Hid (S (m + 1) (pAt ps k) = S m (pAt ps k) + pAt ps k m) := Lib.hid (S_succ _ _)
          have HO2 : Hid (Own (wr.setCell ⟨w1.heap.size, m, none⟩ (.int .i64 (S k (fun i => pAt ps i m) + pAt ps k m))) w1.heap.size 3 T (fun t => .int .i64 (S k (fun i => pAt ps i t) + pick (t < m + 1) (pAt ps k t)))) := Lib.hid ((HO.out.set m _).congr (fun t ht => by
            by_cases e : t = m
            · subst e; rw [if_pos rfl, pick_pos (Nat.lt_succ_self _)]
            · rw [if_neg e]
              by_cases e2 : t < m
              · rw [pick_pos e2, pick_pos (by omega)]
              · rw [pick_neg e2, pick_neg (by omega)]))
          have HB2 : Hid (Below w1.heap.size w1 (wr.setCell ⟨w1.heap.size, m, none⟩ (.int .i64 (S k (fun i => pAt ps i m) + pAt ps k m)))) := Lib.hid (HB.out.setCell (p := ⟨w1.heap.size, m, none⟩) (Nat.le_refl _) _)
          have HM2 : Hid (okAt j' m (pAt ps k m) → ∀ t, t < m + 1 → okAt j' t (pAt ps k t)) := Lib.hid (fun h t ht => by
            by_cases e : t = m
            · subst e; exact h
            · exact HM.out t (by omega))
          have HOA : Hid (okAt j' m (pAt ps k m) ↔ (0 ≤ pAt ps k m ∧ pAt ps k m ≤ j'.rate ∧ (pAt ps k m ≠ 0 → inJ j' m))) := Lib.hid Iff.rfl
          clear HO HM
          generalize S k (fun i => pAt ps i m) = us at *
          generalize S m (pAt ps k) = got at *
          generalize okAt j' m (pAt ps k m) = OKA at *
          generalize hx : pAt ps k m = x at *
          clear hx
          by_cases c0 : x < 0
          · have HF := Lib.hid (BAD.out (fun h => by have := HOA.out.1 h; omega))
            have d0 : decide (x < 0) = true := by simpa using c0
            clear BAD
            as_aux_lemma =>
            go_wp2
            go_ret
            exact ⟨ret_bool HF.out.symm, below_then HB1.out HB.out⟩
          have d0 : decide (x < 0) = false := by simpa using c0
          by_cases c1 : j'.rate < x
          · have HF := Lib.hid (BAD.out (fun h => by have := HOA.out.1 h; omega))
            have d1 : decide (j'.rate < x) = true := by simpa using c1
            clear BAD
            as_aux_lemma =>
            go_wp2
            go_ret
            exact ⟨ret_bool HF.out.symm, below_then HB1.out HB.out⟩
          have d1 : decide (j'.rate < x) = false := by simpa using c1
          by_cases c2 : 0 < x
          · have d2 : decide (0 < x) = true := by simpa using c2
            by_cases c3 : (m : Int) < j'.frm
            · have HF := Lib.hid (BAD.out (fun h => by have := (HOA.out.1 h).2.2 (by omega); have := hin.out.1 this; omega))
              have d3 : decide ((m : Int) < j'.frm) = true := by simpa using c3
              clear BAD
              as_aux_lemma =>
              go_wp2
              go_ret
              exact ⟨ret_bool HF.out.symm, below_then HB1.out HB.out⟩
            have d3 : decide ((m : Int) < j'.frm) = false := by simpa using c3
            by_cases c4 : j'.till ≤ (m : Int)
            · have HF := Lib.hid (BAD.out (fun h => by have := (HOA.out.1 h).2.2 (by omega); have := hin.out.1 this; omega))
              have d4 : decide (j'.till ≤ (m : Int)) = true := by simpa using c4
              clear BAD
              as_aux_lemma =>
              go_wp2
              go_ret
              exact ⟨ret_bool HF.out.symm, below_then HB1.out HB.out⟩
            have d4 : decide (j'.till ≤ (m : Int)) = false := by simpa using c4
            have HM3 := Lib.hid (HM2.out (HOA.out.2 ⟨by omega, by omega, fun _ => hin.out.2 (by omega)⟩))
            clear BAD HM2
            as_aux_lemma =>
            go_wp2
            go_roundg (T - (m + 1))
            case measure => omega
            case rel => exact ⟨m + 1, by go_num, by omega, by omega, by rw [Hs.out], HM3, HO2, HB2⟩
          · have d2 : decide (0 < x) = false := by simpa using c2
            have HM3 := Lib.hid (HM2.out (HOA.out.2 ⟨by omega, by omega, fun h => absurd (show x = 0 by omega) h⟩))
            clear BAD HM2
            as_aux_lemma =>
            go_wp2
            go_roundg (T - (m + 1))
            case measure => omega
            case rel => exact ⟨m + 1, by go_num, by omega, by omega, by rw [Hs.out], HM3, HO2, HB2⟩
        · have hmz : ¬ (m : Int) < (T : Int) := by omega
          have hmT' : m = T := by omega
          by_cases he : S m (pAt ps k) = j'.energy
          · have HRK : Hid (rowOk js ps sup.length k) := Lib.hid ⟨by rw [HrT.out, HN2.out], fun t ht => by rw [HJ.out]; exact HM.out t (by rw [HN2.out] at ht; omega), by rw [HJ.out, HN2.out, ← hmT']; exact he⟩
            have HA2 : Hid (∀ i, i < k + 1 → rowOk js ps sup.length i) := Lib.hid (fun i hi => by
              by_cases e : i = k
              · subst e; exact HRK.out
              · exact HA.out i (by omega))
            have HO2 : Hid (Own wr w1.heap.size 3 T (fun t => .int .i64 (S (k + 1) (fun i => pAt ps i t)))) := Lib.hid (HO.out.congr (fun t ht => by rw [pick_pos (by omega), S_succ]))
            have hb : (S m (pAt ps k) == j'.energy) = true := by rw [he]; simp
            subst hA
            clear HO HM HRK hj hc5 hrn' hrow hmT' he
            generalize S m (pAt ps k) = got at *
            as_aux_lemma =>
            go_wp2
            go_roundg (N5 - (k + 1))
            case measure => omega
            case rel => exact ⟨k + 1, by go_num, by omega, by omega, HA2, HO2, HB⟩
          · have HF : Hid (planB js sup ps = false) := Lib.hid (planB_row hkj (fun h => he (by have := h.2.2; rw [HJ.out, HN2.out, ← hmT'] at this; exact this)))
            have hb : (S m (pAt ps k) == j'.energy) = false := by rw [beq_eq_false_iff_ne]; exact he
            subst hA
            clear HO HM hj hc5 hrn' hrow hmT' he
            generalize S m (pAt ps k) = got at *
            as_aux_lemma =>
            go_wp2
            go_ret
            exact ⟨ret_bool HF.out.symm, below_then HB1.out HB.out⟩
    · have hltz : ¬ (k : Int) < (N5 : Int) := by omega
      have hkN : k = js.length := by rw [HN.out]; omega
      have HA2 : Hid (∀ i, i < js.length → rowOk js ps sup.length i) := Lib.hid (by rw [← hkN]; exact HA.out)
      have HO2 : Hid (Own wr w1.heap.size 3 T (fun t => .int .i64 (S js.length (fun i => pAt ps i t)))) := Lib.hid (by rw [← hkN]; exact HO.out)
      clear HA HO hkN
      go_wp2
      go_loopg [13] T (fun g2 v13 wr => ∃ m : Nat, v13 = .int .i64 m ∧ m ≤ T ∧ T - m ≤ g2 ∧ Hid (∀ t, t < m → S js.length (fun i => pAt ps i t) ≤ fAt sup t) ∧ Hid (Below w1.heap.size w1 wr) ∧ Hid (Own wr w1.heap.size 3 T (fun t => .int .i64 (S js.length (fun i => pAt ps i t)))))
      case atStart => exact ⟨0, by go_num, by omega, by omega, Lib.hid (fun i hi => absurd hi (Nat.not_lt_zero _)), HB, HO2⟩
      case round =>
        clear HB HO2
        obtain ⟨m, rfl, hm, hg2, HM, HB, HO⟩ := hrel
        by_cases hmT : m < T
        · have hmz : (m : Int) < (T : Int) := by omega
          have hms : m < sup.length := by rw [HN2.out]; exact hmT
          obtain ⟨b, off, hA2, hbl, hc0⟩ := (HR2.out.keep HB.out).int (k := m) hms
          have hc1 : wr.cell? ⟨b, off + m, none⟩ = some (.int .i64 (fAt sup m)) := hc0
          have x1 := HO.out.cell hmT
          subst hA2
          clear hc0
          by_cases he : S js.length (fun i => pAt ps i m) ≤ fAt sup m
          · have HM2 : Hid (∀ t, t < m + 1 → S js.length (fun i => pAt ps i t) ≤ fAt sup t) := Lib.hid (fun t ht => by
              by_cases e : t = m
              · subst e; exact he
              · exact HM.out t (by omega))
            have d : decide (fAt sup m < S js.length (fun i => pAt ps i m)) = false := by simpa using he
            clear HM he
            generalize S js.length (fun i => pAt ps i m) = us at *
            generalize fAt sup m = sm at *
            as_aux_lemma =>
            go_wp2_with fail
            go_quiet (fail)
            go_wp2
            go_roundg (T - (m + 1))
            case measure => omega
            case rel => exact ⟨m + 1, by go_num, by omega, by omega, HM2, Lib.hid (below_drewN HB.out _), Lib.hid (HO.out.drewN _)⟩
          · have HF : Hid (planB js sup ps = false) := Lib.hid (planB_fits hms he)
            have d : decide (fAt sup m < S js.length (fun i => pAt ps i m)) = true := by simpa using he
            clear HM he
            generalize S js.length (fun i => pAt ps i m) = us at *
            generalize fAt sup m = sm at *
            as_aux_lemma =>
            go_wp2_with fail
            go_quiet (fail)
            go_wp2
            go_ret
            exact ⟨ret_bool HF.out.symm, below_then HB1.out (below_drewN HB.out _)⟩
        · have hmz : ¬ (m : Int) < (T : Int) := by omega
          have HF : Hid (planB js sup ps = true) := Lib.hid (planB_yes HOK.out (by rw [HN.out, HN5.out]) HA2.out (fun t ht => HM.out t (by rw [HN2.out] at ht; omega)))
          clear HM HO
          as_aux_lemma =>
          go_wp2
          go_ret
          exact ⟨ret_bool HF.out.symm, below_then HB1.out HB.out⟩
end Go.Proofs.Ytgfcnkfmgpakkaa
/-
Contract of the reference's CheckCut.
-/
namespace Go.Proofs.Ytgfcnkfmgpakkaa
open Go.RowKit
set_option linter.unusedVariables false
theorem free_bound {j : GJob} {cs : Nat → Bool} {m : Nat} (h0 : 0 ≤ j.rate) (h1 : j.rate ≤ 1000) (hm : m ≤ 24) : 0 ≤ freeTo j cs m ∧ freeTo j cs m ≤ 24000 := by
  have a := S_nonneg (n := m) (g := fun q => pick (cs (j.frm.toNat + q) = false) j.rate) (fun i _ => by unfold pick; split <;> omega)
  have b := S_bound (n := m) (g := fun q => pick (cs (j.frm.toNat + q) = false) j.rate) (c := 1000) (fun i _ => by show pick _ _ ≤ _; unfold pick; split <;> omega)
  unfold freeTo
  omega
set_option maxRecDepth 100000 in
set_option maxHeartbeats 4000000 in
theorem rpCheckCut_any (A A2 A3 A4 : Option Addr) (c N c2 T c3 N3 c4 N4 : Nat) (js : List GJob) (sup cj cs : List Int) (w : World) (hR : Rd 5 encJ w A js) (HN : Hid (js.length = N)) (hl : N ≤ 9223372036854775807) (hR2 : Rd 1 encI w A2 sup) (HN2 : Hid (sup.length = T)) (hl2 : T ≤ 9223372036854775807)
    (hR3 : Rd 1 encI w A3 cj) (HN3 : Hid (cj.length = N3)) (hl3 : N3 ≤ 9223372036854775807) (hR4 : Rd 1 encI w A4 cs) (HN4 : Hid (cs.length = N4)) (hl4 : N4 ≤ 9223372036854775807) :
    Calls Try.prog 24 #[.slice A N c, .slice A2 T c2, .agg #[.slice A3 N3 c3, .slice A4 N4 c4]] w fun e w' => e = .returned (.bool (cutPB js sup cj cs)) ∧ Below w.heap.size w w' := by
  have a1 : Below w.heap.size w (w.alloc (.cells #[.slice A3 N3 c3, .slice A4 N4 c4] 30)) := (Below.refl _ w).alloc (Nat.le_refl _) _
  go_enter Try.func24, Try.ntmps24
  go_wp2_with fail
  refine (rpValid_any A A2 c N c2 T js sup _ (hR.keep a1) HN hl (hR2.keep a1) HN2 hl2).mono ?_
  rintro e w1 ⟨rfl, hb1⟩
  have k1 : w1.cell? ⟨w.heap.size, 0, none⟩ = some (.slice A3 N3 c3) := (hb1.cell (p := ⟨w.heap.size, 0, none⟩) (by simp)).trans (by go_simp)
  have k2 : w1.cell? ⟨w.heap.size, 1, none⟩ = some (.slice A4 N4 c4) := (hb1.cell (p := ⟨w.heap.size, 1, none⟩) (by simp)).trans (by go_simp)
  have l1 := World.block_lt_of_cell? w1 _ k1
  dsimp only at l1
  have b1 : Below w.heap.size w w1 := below_then a1 hb1
  clear hb1 a1
  go_wp2_with fail
  refine (rpChoice_any A3 c3 N3 N cj w1 (hR3.keep b1) HN3 hl3).mono ?_
  rintro e w2 ⟨rfl, hb2⟩
  have k12 := (hb2.cell (p := ⟨w.heap.size, 0, none⟩) l1).trans k1
  have k22 := (hb2.cell (p := ⟨w.heap.size, 1, none⟩) l1).trans k2
  have b2 : Below w.heap.size w w2 := below_then b1 hb2
  have l2 := World.block_lt_of_cell? w2 _ k12
  dsimp only at l2
  clear hb2 k1 k2 l1
  go_wp2_with fail
  refine (rpChoice_any A4 c4 N4 T cs w2 (hR4.keep b2) HN4 hl4).mono ?_
  rintro e w3 ⟨rfl, hb3⟩
  have k13 := (hb3.cell (p := ⟨w.heap.size, 0, none⟩) l2).trans k12
  have k23 := (hb3.cell (p := ⟨w.heap.size, 1, none⟩) l2).trans k22
  have b3 : Below w.heap.size w w3 := below_then b2 hb3
  clear hb3 k12 k22 l2 b1 b2
  have HC : Hid (cutPB js sup cj cs = (okP js sup && (marksB cj N && marksB cs T && decide (roomC js sup (inL cj) (inL cs) < needC js (inL cj))))) := Lib.hid (by unfold cutPB; rw [HN.out, HN2.out])
  cases hok : okP js sup
  · have HF : Hid (cutPB js sup cj cs = false) := Lib.hid (by rw [HC.out, hok]; rfl)
    go_wp2
    go_ret
    exact ⟨ret_bool HF.out.symm, b3⟩
  cases g1 : marksB cj N
  · have HF : Hid (cutPB js sup cj cs = false) := Lib.hid (by rw [HC.out, hok, g1]; rfl)
    go_wp2
    go_ret
    exact ⟨ret_bool HF.out.symm, b3⟩
  cases g2 : marksB cs T
  · have HF : Hid (cutPB js sup cj cs = false) := Lib.hid (by rw [HC.out, hok, g1, g2]; rfl)
    go_wp2
    go_ret
    exact ⟨ret_bool HF.out.symm, b3⟩
  have HC2 : Hid (cutPB js sup cj cs = decide (roomC js sup (inL cj) (inL cs) < needC js (inL cj))) := Lib.hid (by rw [HC.out, hok, g1, g2]; rfl)
  have HG1 : Hid (goodTo cj N cj.length) := Lib.hid (marksB_iff.1 g1)
  have HG2 : Hid (goodTo cs T cs.length) := Lib.hid (marksB_iff.1 g2)
  have HOK := Lib.hid hok
  obtain ⟨⟨t1, t2⟩, _, _⟩ := okP_iff.1 hok
  rw [HN.out] at t1
  rw [HN2.out] at t2
  have HR := Lib.hid (hR.keep b3)
  have HR2 := Lib.hid (hR2.keep b3)
  have HR3 := Lib.hid (hR3.keep b3)
  have HR4 := Lib.hid (hR4.keep b3)
  have HB3 := Lib.hid b3
  have hn4 : N4 ≤ 24 := by have := good_len HG2.out; have := HN4.out; omega
  have hn3 : N3 ≤ 12 := by have := good_len HG1.out; have := HN3.out; omega
  clear hR hR2 hR3 hR4 b3 HC hok g1 g2
  go_wp2
  go_loopg [10, 11] N4 (fun g1 v10 v11 wr => ∃ k : Nat, v11 = .int .i64 k ∧ k ≤ N4 ∧ N4 - k ≤ g1 ∧ v10 = .int .i64 (- S k (fun i => fAt sup (fAt cs i).toNat)) ∧ Hid (0 ≤ S k (fun i => fAt sup (fAt cs i).toNat) ∧ S k (fun i => fAt sup (fAt cs i).toNat) ≤ 1000 * k) ∧ w3 = wr)
  case atStart => exact ⟨0, by go_num, by omega, by omega, by go_num, Lib.hid (by simp [S]), rfl⟩
  case round =>
    obtain ⟨k, rfl, hk, hg, rfl, HS, rfl⟩ := hrel
    by_cases hlt : k < N4
    · have hltz : (k : Int) < (N4 : Int) := by omega
      obtain ⟨b4, o4, hA4, hbl4, hc4⟩ := HR4.out.int (k := k) (by rw [HN4.out]; exact hlt)
      have hgd := good_ge HG2.out (i := k) (by rw [HN4.out]; exact hlt)
      obtain ⟨d, hd⟩ : ∃ d : Nat, fAt cs k = d := ⟨(fAt cs k).toNat, by omega⟩
      have hdT : d < T := by omega
      have hdz : (d : Int) < (T : Int) := by omega
      have hc4' : w3.cell? ⟨b4, o4 + k, none⟩ = some (.int .i64 d) := by rw [hc4]; exact congrArg (fun x => some (Value.int .i64 x)) hd
      obtain ⟨b2, o2, hA2, hbl2, hc2⟩ := HR2.out.int (k := d) (by rw [HN2.out]; exact hdT)
      have hc2' : w3.cell? ⟨b2, o2 + d, none⟩ = some (.int .i64 (fAt sup d)) := hc2
      have hsd := okP_sup HOK.out (t := d) (by rw [HN2.out]; exact hdT)
      have Hs : Hid (S (k + 1) (fun i => fAt sup (fAt cs i).toNat) = S k (fun i => fAt sup (fAt cs i).toNat) + fAt sup d) := Lib.hid (by rw [S_succ, hd]; rfl)
      have bk := HS.out
      subst hA4 hA2
      clear hc4 hc2 hgd hd HS
      generalize S k (fun i => fAt sup (fAt cs i).toNat) = room at *
      generalize fAt sup d = sd at *
      go_wp2
      go_roundg (N4 - (k + 1))
      case measure => omega
      case rel => exact ⟨k + 1, by go_num, by omega, by omega, by rw [Hs.out]; exact val_int (by omega), Lib.hid (by rw [Hs.out]; omega), rfl⟩
    · have hltz : ¬ (k : Int) < (N4 : Int) := by omega
      have hkN : k = cs.length := by rw [HN4.out]; omega
      subst hkN
      obtain ⟨R1, hR1⟩ : ∃ R1, R1 = S cs.length (fun i => fAt sup (fAt cs i).toNat) := ⟨_, rfl⟩
      rw [← hR1] at HS ⊢
      have HR1 := Lib.hid hR1
      have bR : 0 ≤ R1 ∧ R1 ≤ 24000 := by have := HS.out; omega
      clear hR1 hk hg HS
      go_wp2
      go_loopg [10, 12] N3 (fun g1 v10 v12 wr => ∃ k : Nat, v12 = .int .i64 k ∧ k ≤ N3 ∧ N3 - k ≤ g1 ∧ v10 = .int .i64 (S k (fun i => (jAt js (fAt cj i).toNat).energy) - (R1 + S k (fun i => freeJ js T (inL cs) (fAt cj i).toNat))) ∧ Hid (0 ≤ S k (fun i => (jAt js (fAt cj i).toNat).energy) ∧ S k (fun i => (jAt js (fAt cj i).toNat).energy) ≤ 1000 * k ∧ 0 ≤ S k (fun i => freeJ js T (inL cs) (fAt cj i).toNat) ∧ S k (fun i => freeJ js T (inL cs) (fAt cj i).toNat) ≤ 24000 * k) ∧ Hid (Below w3.heap.size w3 wr))
      case atStart => exact ⟨0, by go_num, by omega, by omega, by simp [S], Lib.hid (by simp [S]), Lib.hid (Below.refl _ _)⟩
      case round =>
        obtain ⟨k, rfl, hk, hg, rfl, HS, HB⟩ := hrel
        have q1 := (HB.out.cell (p := ⟨w.heap.size, 0, none⟩) (World.block_lt_of_cell? w3 _ k13)).trans k13
        have q2 := (HB.out.cell (p := ⟨w.heap.size, 1, none⟩) (World.block_lt_of_cell? w3 _ k23)).trans k23
        by_cases hlt : k < N3
        · have hltz : (k : Int) < (N3 : Int) := by omega
          obtain ⟨b4, o4, hA4, hbl4, hc4⟩ := (HR3.out.keep HB.out).int (k := k) (by rw [HN3.out]; exact hlt)
          have hgd := good_ge HG1.out (i := k) (by rw [HN3.out]; exact hlt)
          obtain ⟨d, hd⟩ : ∃ d : Nat, fAt cj k = d := ⟨(fAt cj k).toNat, by omega⟩
          have hdN : d < N := by omega
          have hdz : (d : Int) < (N : Int) := by omega
          have hc4' : wr.cell? ⟨b4, o4 + k, none⟩ = some (.int .i64 d) := by rw [hc4]; exact congrArg (fun x => some (Value.int .i64 x)) hd
          have hdj : d < js.length := by rw [HN.out]; exact hdN
          obtain ⟨b, off, j, hA, hbl, hj, g0, g1, g2, g3, g4⟩ := rdJ_at (HR.out.keep HB.out) (k := d) hdj
          have hjk : jAt js d = j := by simp [jAt, hj]
          have HJ := Lib.hid hjk
          have hjo := okP_job HOK.out hdj
          rw [hjk, HN2.out] at hjo
          obtain ⟨f0, f1, f2, f3, f4, f5, f6, _, _⟩ := hjo
          have Hs1 : Hid (S (k + 1) (fun i => (jAt js (fAt cj i).toNat).energy) = S k (fun i => (jAt js (fAt cj i).toNat).energy) + j.energy) := Lib.hid (by rw [S_succ, hd, Int.toNat_natCast, hjk])
          have Hs2 : Hid (S (k + 1) (fun i => freeJ js T (inL cs) (fAt cj i).toNat) = S k (fun i => freeJ js T (inL cs) (fAt cj i).toNat) + freeTo j (inL cs) (lenJ j)) := Lib.hid (by
            have := freeTo_all HOK.out (inL cs) hdj
            rw [hjk, HN2.out] at this
            rw [S_succ, hd, Int.toNat_natCast, this])
          have bk := HS.out
          subst hA4 hA
          have cbb : Hid (Below w3.heap.size w3 (wr.alloc (.cells #[.int .i64 j.frm, .int .i64 j.till, .int .i64 j.energy, .int .i64 j.rate, .int .i64 j.rank] 25))) := Lib.hid (HB.out.alloc HB.out.size _)
          have Hq : Hid (q1 = q1) := Lib.hid rfl
          clear hc4 hgd hd HS hj hjk Hq
          generalize S k (fun i => (jAt js (fAt cj i).toNat).energy) = en at *
          generalize S k (fun i => freeJ js T (inL cs) (fAt cj i).toNat) = fr at *
          have hlen : (lenJ j : Int) = j.till - j.frm := by unfold lenJ; omega
          have hlen24 : lenJ j ≤ 24 := by omega
          go_wp2
          generalize hbj : wr.heap.size = bj
          have HBJ := Lib.hid hbj
          have n1 : (wr.alloc (.cells #[.int .i64 j.frm, .int .i64 j.till, .int .i64 j.energy, .int .i64 j.rate, .int .i64 j.rank] 25)).cell? ⟨bj, 1, none⟩ = some (.int .i64 j.till) := by rw [← hbj]; go_simp
          have n3 : (wr.alloc (.cells #[.int .i64 j.frm, .int .i64 j.till, .int .i64 j.energy, .int .i64 j.rate, .int .i64 j.rank] 25)).cell? ⟨bj, 3, none⟩ = some (.int .i64 j.rate) := by rw [← hbj]; go_simp
          have n5 : (wr.alloc (.cells #[.int .i64 j.frm, .int .i64 j.till, .int .i64 j.energy, .int .i64 j.rate, .int .i64 j.rank] 25)).cell? ⟨w.heap.size, 1, none⟩ = some (.slice A4 N4 c4) := (((Below.refl _ wr).alloc (Nat.le_refl _) _).cell (p := ⟨w.heap.size, 1, none⟩) (World.block_lt_of_cell? wr _ q2)).trans q2
          clear hbj HBJ HB g0 g1 g2 g3 g4 hc4' q1 q2 hbl hbl4
          generalize wr.alloc (.cells #[.int .i64 j.frm, .int .i64 j.till, .int .i64 j.energy, .int .i64 j.rate, .int .i64 j.rank] 25) = W at *
          go_loopg [10, 14] (lenJ j) (fun g1 v10 v14 wr => ∃ m : Nat, v14 = .int .i64 (j.frm + m) ∧ m ≤ lenJ j ∧ lenJ j - m ≤ g1 ∧ v10 = .int .i64 (en - (R1 + fr) + j.energy - freeTo j (inL cs) m) ∧ W = wr)
          case atStart => exact ⟨0, by simp, by omega, by omega, by simp [freeTo, S], rfl⟩
          case round =>
            obtain ⟨m, rfl, hm, hg2, rfl, rfl⟩ := hrel
            have fb := free_bound (cs := inL cs) f5 f6 (m := m) (by omega)
            by_cases hmT : m < lenJ j
            · have hmz : j.frm + (m : Int) < j.till := by omega
              have hH := rpHas_any A4 c4 N4 cs (j.frm.toNat + m) W (HR4.out.keep cbb.out) HN4 (by omega)
              have he : ((j.frm.toNat + m : Nat) : Int) = j.frm + (m : Int) := by omega
              rw [he] at hH
              have Hs : Hid (freeTo j (inL cs) (m + 1) = freeTo j (inL cs) m + pick (inL cs (j.frm.toNat + m) = false) j.rate) := Lib.hid (S_succ _ _)
              have HH := Lib.hid hH
              clear hH he
              go_wp2_with fail
              refine HH.out.mono ?_
              rintro e w' ⟨rfl, rfl⟩
              cases hi : inL cs (j.frm.toNat + m)
              · have Hp : Hid (freeTo j (inL cs) (m + 1) = freeTo j (inL cs) m + j.rate) := Lib.hid (by rw [Hs.out, pick_pos hi])
                clear Hs hi HH
                generalize freeTo j (inL cs) m = ff at *
                go_wp2
                go_roundg (lenJ j - (m + 1))
                case measure => omega
                case rel => exact ⟨m + 1, val_int (by omega), by omega, by omega, by rw [Hp.out]; exact val_int (by omega), rfl⟩
              · have Hp : Hid (freeTo j (inL cs) (m + 1) = freeTo j (inL cs) m) := Lib.hid (by rw [Hs.out, pick_neg (by rw [hi]; simp)]; omega)
                clear Hs hi HH
                generalize freeTo j (inL cs) m = ff at *
                go_wp2
                go_roundg (lenJ j - (m + 1))
                case measure => omega
                case rel => exact ⟨m + 1, val_int (by omega), by omega, by omega, by rw [Hp.out], rfl⟩
            · have hmz : ¬ j.frm + (m : Int) < j.till := by omega
              have Hmm : Hid (freeTo j (inL cs) m = freeTo j (inL cs) (lenJ j)) := Lib.hid (by rw [show m = lenJ j by omega])
              have fb2 := free_bound (cs := inL cs) f5 f6 (m := lenJ j) (by omega)
              generalize freeTo j (inL cs) m = ff at *
              generalize freeTo j (inL cs) (lenJ j) = fa at *
              go_wp2
              go_roundg (N3 - (k + 1))
              case measure => omega
              case rel => exact ⟨k + 1, by go_num, by omega, by omega, by rw [Hs1.out, Hs2.out]; exact val_int (by have := Hmm.out; omega), Lib.hid (by rw [Hs1.out, Hs2.out]; omega), cbb⟩
        · have hltz : ¬ (k : Int) < (N3 : Int) := by omega
          have hkN : k = cj.length := by rw [HN3.out]; omega
          have hG1' : goodTo cj js.length cj.length := by rw [HN.out]; exact HG1.out
          have hG2' : goodTo cs sup.length cs.length := by rw [HN2.out]; exact HG2.out
          have e1 := cut_need hG1'
          have e2 := cut_room hG1' hG2'
          rw [← hkN] at e1
          rw [← HR1.out, ← hkN, HN2.out] at e2
          have bk := HS.out
          have HV : Hid (cutPB js sup cj cs = decide (0 < S k (fun i => (jAt js (fAt cj i).toNat).energy) - (R1 + S k (fun i => freeJ js T (inL cs) (fAt cj i).toNat)))) := Lib.hid (by
            rw [HC2.out, e1, e2]
            exact decide_eq_decide.2 (by omega))
          clear e1 e2 hG1' hG2' hkN HS
          generalize S k (fun i => (jAt js (fAt cj i).toNat).energy) = en at *
          generalize S k (fun i => freeJ js T (inL cs) (fAt cj i).toNat) = fr at *
          go_wp2
          go_ret
          exact ⟨ret_bool (by rw [HV.out]; exact decide_eq_decide.2 (by omega)), below_then HB3.out HB.out⟩
end Go.Proofs.Ytgfcnkfmgpakkaa
