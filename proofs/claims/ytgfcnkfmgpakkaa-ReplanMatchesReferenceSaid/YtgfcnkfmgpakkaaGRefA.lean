/-
Several texts in one: PlanN, PlanM, PlanJ, PlanK.
-/
import Derived.Test.YtgfcnkfmgpakkaaGPlanC
import Derived.Test.YtgfcnkfmgpakkaaCPlanA
/-
Contract of the reference's choice.
-/
namespace Go.Proofs.Ytgfcnkfmgpakkaa
open Go.RowKit
set_option linter.unusedVariables false
set_option maxRecDepth 100000 in
set_option maxHeartbeats 1600000 in
theorem rpChoice_any (A : Option Addr) (c N T : Nat) (xs : List Int) (w : World) (hR : Rd 1 encI w A xs) (HN : Hid (xs.length = N)) (hl : N ≤ 9223372036854775807) :
    Calls Try.prog 58 #[.slice A N c, .int .i64 T] w fun e w' => e = .returned (.bool (marksB xs T)) ∧ Below w.heap.size w w' := by
  have HR := Lib.hid hR
  clear hR
  go_enter Try.func58, Try.ntmps58
  go_wp2
  go_loopg [5] N (fun g1 v5 wr => ∃ k : Nat, v5 = .int .i64 k ∧ k ≤ N ∧ N - k ≤ g1 ∧ Hid (goodTo xs T k) ∧ Hid (Below w.heap.size w wr))
  case atStart => exact ⟨0, by go_num, by omega, by omega, Lib.hid (fun i hi => absurd hi (Nat.not_lt_zero _)), Lib.hid (Below.refl _ _)⟩
  case round =>
    obtain ⟨k, rfl, hk, hg1, HG, HB⟩ := hrel
    by_cases hlt : k < N
    · have hltz : (k : Int) < (N : Int) := by omega
      obtain ⟨b, off, hA, hbl, hc0⟩ := (HR.out.keep HB.out).int (k := k) (by rw [HN.out]; exact hlt)
      have hc1 : wr.cell? ⟨b, off + k, none⟩ = some (.int .i64 (fAt xs k)) := hc0
      clear hc0
      have hkx : k < xs.length := by rw [HN.out]; exact hlt
      have hbf := befP_ge HG.out
      by_cases h0 : fAt xs k < 0
      · have HF : Hid (marksB xs T = false) := Lib.hid (marksB_not hkx (by omega))
        clear hbf
        subst hA
        generalize fAt xs k = x at *
        have d0 : decide (x < 0) = true := by simpa using h0
        go_wp2_with fail
        go_quiet (fail)
        go_wp2
        go_ret
        exact ⟨ret_bool HF.out.symm, by first | exact HB.out | exact below_drewN HB.out _⟩
      by_cases h1 : (T : Int) ≤ fAt xs k
      · have HF : Hid (marksB xs T = false) := Lib.hid (marksB_not hkx (by omega))
        clear hbf
        subst hA
        generalize fAt xs k = x at *
        have d0 : decide (x < 0) = false := by simpa using h0
        have d1 : decide ((T : Int) ≤ x) = true := by simpa using h1
        go_wp2_with fail
        go_quiet (fail)
        go_wp2
        go_ret
        exact ⟨ret_bool HF.out.symm, by first | exact HB.out | exact below_drewN HB.out _⟩
      rcases Nat.eq_zero_or_pos k with e0 | e0
      · have HG2 : Hid (goodTo xs T (k + 1)) := Lib.hid (fun i hi => by
          have : i = k := by omega
          subst this
          subst e0
          exact ⟨by show (-1 : Int) < _; omega, by omega⟩)
        have d2 : decide (0 < k) = false := by simp [e0]
        clear hbf e0
        subst hA
        generalize fAt xs k = x at *
        have d0 : decide (x < 0) = false := by simpa using h0
        have d1 : decide ((T : Int) ≤ x) = false := by simpa using h1
        go_wp2_with fail
        go_quiet (fail)
        go_wp2
        go_roundg (N - (k + 1))
        case measure => omega
        case rel => exact ⟨k + 1, by go_num, by omega, by omega, HG2, by first | exact HB | exact Lib.hid (below_drewN HB.out _)⟩
      · obtain ⟨m, rfl⟩ : ∃ m, k = m + 1 := ⟨k - 1, by omega⟩
        obtain ⟨b', off', hA', _, hd0⟩ := (HR.out.keep HB.out).int (k := m) (by rw [HN.out]; omega)
        have hA2 : (⟨b', off', none⟩ : Addr) = ⟨b, off, none⟩ := Option.some.inj (hA'.symm.trans hA)
        injection hA2 with e1 e2
        subst e1 e2
        have hd1 : wr.cell? ⟨b', off' + m, none⟩ = some (.int .i64 (fAt xs m)) := hd0
        clear hd0 hA'
        have hm0 : (0 : Int) < ((m + 1 : Nat) : Int) := by omega
        have hm1 : ((m + 1 : Nat) : Int) - 1 = (m : Int) := by omega
        by_cases h2 : fAt xs m < fAt xs (m + 1)
        · have HG2 : Hid (goodTo xs T (m + 1 + 1)) := Lib.hid (fun i hi => by
            by_cases e : i = m + 1
            · subst e; exact ⟨h2, by omega⟩
            · exact HG.out i (by omega))
          clear hbf
          subst hA
          generalize fAt xs (m + 1) = x at *
          generalize fAt xs m = y at *
          have d0 : decide (x < 0) = false := by simpa using h0
          have d1 : decide ((T : Int) ≤ x) = false := by simpa using h1
          have d2 : decide ((0 : Int) < ((m + 1 : Nat) : Int)) = true := decide_eq_true hm0
          go_wp2_with fail
          go_quiet (fail)
          go_wp2
          go_roundg (N - (m + 1 + 1))
          case measure => omega
          case rel => exact ⟨m + 1 + 1, by go_num, by omega, by omega, HG2, by first | exact HB | exact Lib.hid (below_drewN HB.out _)⟩
        · have HF : Hid (marksB xs T = false) := Lib.hid (marksB_not hkx (fun h => h2 h.1))
          clear hbf
          subst hA
          generalize fAt xs (m + 1) = x at *
          generalize fAt xs m = y at *
          have d0 : decide (x < 0) = false := by simpa using h0
          have d1 : decide ((T : Int) ≤ x) = false := by simpa using h1
          have d2 : decide ((0 : Int) < ((m + 1 : Nat) : Int)) = true := decide_eq_true hm0
          go_wp2_with fail
          go_quiet (fail)
          go_wp2
          go_ret
          exact ⟨ret_bool HF.out.symm, by first | exact HB.out | exact below_drewN HB.out _⟩
    · have hltz : ¬ (k : Int) < (N : Int) := by omega
      have HF : Hid (marksB xs T = true) := Lib.hid (marksB_iff.2 (by have := HG.out; rwa [show k = xs.length by rw [HN.out]; omega] at this))
      go_wp2
      go_ret
      exact ⟨ret_bool HF.out.symm, HB.out⟩
end Go.Proofs.Ytgfcnkfmgpakkaa
/-
Contract of the reference's has.
-/
namespace Go.Proofs.Ytgfcnkfmgpakkaa
open Go.RowKit
set_option linter.unusedVariables false
set_option maxRecDepth 100000 in
set_option maxHeartbeats 1600000 in
theorem rpHas_any (A : Option Addr) (c N : Nat) (xs : List Int) (t : Nat) (w : World) (hR : Rd 1 encI w A xs) (HN : Hid (xs.length = N)) (hl : N ≤ 9223372036854775807) :
    Calls Try.prog 59 #[.slice A N c, .int .i64 t] w fun e w' => e = .returned (.bool (inL xs t)) ∧ w' = w := by
  have HR := Lib.hid hR
  clear hR
  go_enter Try.func59, Try.ntmps59
  go_wp2
  go_loopg [5] N (fun g1 v5 wr => ∃ k : Nat, v5 = .int .i64 k ∧ k ≤ N ∧ N - k ≤ g1 ∧ Hid (inL (xs.take k) t = false) ∧ w = wr)
  case atStart => exact ⟨0, by go_num, by omega, by omega, Lib.hid (by simp [inL]), rfl⟩
  case round =>
    obtain ⟨k, rfl, hk, hg1, HF, rfl⟩ := hrel
    by_cases hlt : k < N
    · have hltz : (k : Int) < (N : Int) := by omega
      obtain ⟨b, off, hA, hbl, hc0⟩ := HR.out.int (k := k) (by rw [HN.out]; exact hlt)
      subst hA
      have hc1 : w.cell? ⟨b, off + k, none⟩ = some (.int .i64 (fAt xs k)) := hc0
      clear hc0
      have hkx : k < xs.length := by rw [HN.out]; exact hlt
      by_cases he : fAt xs k = (t : Int)
      · have HT : Hid (inL xs t = true) := Lib.hid (by
          unfold inL
          rw [decide_eq_true_eq, ← he]
          have : fAt xs k = xs[k] := by simp [fAt, List.getElem?_eq_getElem hkx]
          rw [this]
          exact List.getElem_mem hkx)
        have hb : (fAt xs k == (t : Int)) = true := by rw [he]; simp
        clear he
        generalize fAt xs k = x at *
        go_wp2
        go_ret
        exact ⟨ret_bool HT.out.symm, rfl⟩
      · have HF2 : Hid (inL (xs.take (k + 1)) t = false) := Lib.hid (by
          have h1 := HF.out
          unfold inL at *
          rw [decide_eq_false_iff_not] at *
          rw [mem_take_succ hkx]
          rintro (h | h)
          · exact h1 h
          · exact he h.symm)
        have hb : (fAt xs k == (t : Int)) = false := by rw [beq_eq_false_iff_ne]; exact he
        clear he
        generalize fAt xs k = x at *
        go_wp2
        go_roundg (N - (k + 1))
        case measure => omega
        case rel => exact ⟨k + 1, by go_num, by omega, by omega, HF2, rfl⟩
    · have hltz : ¬ (k : Int) < (N : Int) := by omega
      have HF2 : Hid (inL xs t = false) := Lib.hid (by have := HF.out; rwa [List.take_of_length_le (by rw [HN.out]; omega)] at this)
      go_wp2
      go_ret
      exact ⟨ret_bool HF2.out.symm, rfl⟩
end Go.Proofs.Ytgfcnkfmgpakkaa
/-
Contracts of the reference's Job and Valid.
-/
namespace Go.Proofs.Ytgfcnkfmgpakkaa
open Go.RowKit
set_option linter.unusedVariables false
set_option maxRecDepth 100000 in
set_option maxHeartbeats 1600000 in
theorem rpJob_any (j : GJob) (n : Int) (w : World) : Calls Try.prog 81 #[aggJ j, .int .i64 n] w fun e w' => e = .returned (.bool (okJ n j)) ∧ Below w.heap.size w w' := by
  have hb : Below w.heap.size w (w.alloc (.cells #[.int .i64 j.frm, .int .i64 j.till, .int .i64 j.energy, .int .i64 j.rate, .int .i64 j.rank] 25)) := (Below.refl _ w).alloc (Nat.le_refl _) _
  have HB := Lib.hid hb
  clear hb
  unfold aggJ
  have bad : ∀ {p : Prop}, ¬ p → (okJ n j = true → p) → okJ n j = false := fun h1 h2 => by
    cases h : okJ n j
    · rfl
    · exact absurd (h2 h) h1
  by_cases h1 : 0 ≤ j.frm
  case neg => (have HX := Lib.hid (bad h1 (fun h => (okJ_iff.1 h).1)); go_enter Try.func81, Try.ntmps81; go_wp2; go_ret; exact ⟨ret_bool HX.out.symm, HB.out⟩)
  by_cases h2 : j.frm ≤ j.till
  case neg => (have HX := Lib.hid (bad h2 (fun h => (okJ_iff.1 h).2.1)); go_enter Try.func81, Try.ntmps81; go_wp2; go_ret; exact ⟨ret_bool HX.out.symm, HB.out⟩)
  by_cases h3 : j.till ≤ n
  case neg => (have HX := Lib.hid (bad h3 (fun h => (okJ_iff.1 h).2.2.1)); go_enter Try.func81, Try.ntmps81; go_wp2; go_ret; exact ⟨ret_bool HX.out.symm, HB.out⟩)
  by_cases h4 : 0 ≤ j.energy
  case neg => (have HX := Lib.hid (bad h4 (fun h => (okJ_iff.1 h).2.2.2.1)); go_enter Try.func81, Try.ntmps81; go_wp2; go_ret; exact ⟨ret_bool HX.out.symm, HB.out⟩)
  by_cases h5 : j.energy ≤ 1000
  case neg => (have HX := Lib.hid (bad h5 (fun h => (okJ_iff.1 h).2.2.2.2.1)); go_enter Try.func81, Try.ntmps81; go_wp2; go_ret; exact ⟨ret_bool HX.out.symm, HB.out⟩)
  by_cases h6 : 0 ≤ j.rate
  case neg => (have HX := Lib.hid (bad h6 (fun h => (okJ_iff.1 h).2.2.2.2.2.1)); go_enter Try.func81, Try.ntmps81; go_wp2; go_ret; exact ⟨ret_bool HX.out.symm, HB.out⟩)
  by_cases h7 : j.rate ≤ 1000
  case neg => (have HX := Lib.hid (bad h7 (fun h => (okJ_iff.1 h).2.2.2.2.2.2.1)); go_enter Try.func81, Try.ntmps81; go_wp2; go_ret; exact ⟨ret_bool HX.out.symm, HB.out⟩)
  by_cases h8 : 1 ≤ j.rank
  case neg => (have HX := Lib.hid (bad h8 (fun h => (okJ_iff.1 h).2.2.2.2.2.2.2.1)); go_enter Try.func81, Try.ntmps81; go_wp2; go_ret; exact ⟨ret_bool HX.out.symm, HB.out⟩)
  have Hd : Hid (okJ n j = decide (j.rank ≤ 9)) := Lib.hid (by
    rw [Bool.eq_iff_iff, okJ_iff]
    simp only [decide_eq_true_eq]
    constructor
    · exact fun h => h.2.2.2.2.2.2.2.2
    · exact fun h => ⟨h1, h2, h3, h4, h5, h6, h7, h8, h⟩)
  clear bad
  go_enter Try.func81, Try.ntmps81
  go_wp2
  go_ret
  exact ⟨ret_bool Hd.out.symm, HB.out⟩
end Go.Proofs.Ytgfcnkfmgpakkaa
/-
Contract of the reference's Valid for plans.
-/
namespace Go.Proofs.Ytgfcnkfmgpakkaa
open Go.RowKit
set_option linter.unusedVariables false
set_option maxRecDepth 100000 in
set_option maxHeartbeats 1600000 in
theorem rpValid_any (A A2 : Option Addr) (c N c2 T : Nat) (js : List GJob) (sup : List Int) (w : World) (hR : Rd 5 encJ w A js) (HN : Hid (js.length = N)) (hl : N ≤ 9223372036854775807) (hR2 : Rd 1 encI w A2 sup) (HN2 : Hid (sup.length = T)) (hl2 : T ≤ 9223372036854775807) :
    Calls Try.prog 49 #[.slice A N c, .slice A2 T c2] w fun e w' => e = .returned (.bool (okP js sup)) ∧ Below w.heap.size w w' := by
  by_cases h1 : N ≤ 12 ∧ T ≤ 24
  · obtain ⟨h1, h2⟩ := h1
    have Hg : Hid (okP js sup = (sup.all okU && js.all (okJ T))) := by
      unfold Hid okP
      rw [HN.out, HN2.out]
      simp [h1, h2]
    have HR := Lib.hid hR
    have HR2 := Lib.hid hR2
    clear hR hR2
    go_enter Try.func49, Try.ntmps49
    go_wp2
    go_loopg [5] T (fun g1 v5 wr => ∃ k : Nat, v5 = .int .i64 k ∧ k ≤ T ∧ T - k ≤ g1 ∧ Hid ((sup.take k).all okU = true) ∧ Hid (Below w.heap.size w wr))
    case atStart => exact ⟨0, by go_num, by omega, by omega, Lib.hid rfl, Lib.hid (Below.refl _ _)⟩
    case round =>
      obtain ⟨k, rfl, hk, hg, HA, HB⟩ := hrel
      by_cases hlt : k < T
      · have hltz : (k : Int) < (T : Int) := by omega
        obtain ⟨b, off, x, hA, hbl, hx, hcc⟩ := (HR2.out.keep HB.out).at_ (k := k) (by rw [HN2.out]; exact hlt)
        have hc0 := hcc 0 _ rfl
        rw [Nat.mul_one, Nat.add_zero] at hc0
        subst hA
        have HX := Lib.hid hx
        clear hcc hx
        by_cases x0 : x < 0
        · have HF : Hid (okU x = false) := Lib.hid (by unfold okU; simp; omega)
          go_wp2
          try go_quiet (fail)
          try go_wp2
          go_ret
          exact ⟨ret_bool (by rw [Hg.out, all_not HX.out HF.out]; rfl), by first | exact HB.out | exact below_drewN HB.out _⟩
        by_cases x1 : 1000 < x
        · have HF : Hid (okU x = false) := Lib.hid (by unfold okU; simp; omega)
          go_wp2
          try go_quiet (fail)
          try go_wp2
          go_ret
          exact ⟨ret_bool (by rw [Hg.out, all_not HX.out HF.out]; rfl), by first | exact HB.out | exact below_drewN HB.out _⟩
        have HA2 : Hid ((sup.take (k + 1)).all okU = true) := Lib.hid (all_snoc HX.out HA.out (by unfold okU; simp; omega))
        go_wp2
        try go_quiet (fail)
        try go_wp2
        go_roundg (T - (k + 1))
        case measure => omega
        case rel => exact ⟨k + 1, by go_num, by omega, by omega, HA2, by first | exact HB | exact Lib.hid (below_drewN HB.out _)⟩
      · have hltz : ¬ (k : Int) < (T : Int) := by omega
        have HS : Hid (sup.all okU = true) := Lib.hid (by have := HA.out; rwa [List.take_of_length_le (by rw [HN2.out]; omega)] at this)
        go_wp2
        go_loopg [6] N (fun g1 v6 wr => ∃ k : Nat, v6 = .int .i64 k ∧ k ≤ N ∧ N - k ≤ g1 ∧ Hid ((js.take k).all (okJ T) = true) ∧ Hid (Below w.heap.size w wr))
        case atStart => exact ⟨0, by go_num, by omega, by omega, Lib.hid rfl, HB⟩
        case round =>
          clear HA hltz hlt hg hk HB
          obtain ⟨k, rfl, hk, hg, HA, HB⟩ := hrel
          by_cases hlt : k < N
          · have hltz : (k : Int) < (N : Int) := by omega
            obtain ⟨b, off, j, hA, hbl, hj, g0, g1, g2, g3, g4⟩ := rdJ_at (HR.out.keep HB.out) (k := k) (by rw [HN.out]; exact hlt)
            subst hA
            have HJ := Lib.hid hj
            clear hj hbl
            go_wp2_with fail
            refine (rpJob_any j T _).mono ?_
            rintro e w2 ⟨rfl, hb2⟩
            have HB2 := Lib.hid (below_then HB.out hb2)
            clear hb2
            cases ho : okJ T j
            · go_wp2
              go_ret
              exact ⟨ret_bool (by rw [Hg.out, all_not HJ.out ho, Bool.and_false]), HB2.out⟩
            · have HA2 : Hid ((js.take (k + 1)).all (okJ T) = true) := Lib.hid (all_snoc HJ.out HA.out ho)
              go_wp2
              go_roundg (N - (k + 1))
              case measure => omega
              case rel => exact ⟨k + 1, by go_num, by omega, by omega, HA2, HB2⟩
          · have hltz : ¬ (k : Int) < (N : Int) := by omega
            have HS2 : Hid (js.all (okJ T) = true) := Lib.hid (by have := HA.out; rwa [List.take_of_length_le (by rw [HN.out]; omega)] at this)
            go_wp2
            go_ret
            exact ⟨ret_bool (by rw [Hg.out, HS.out, HS2.out]; rfl), HB.out⟩
  · have Hg : Hid (okP js sup = false) := by
      unfold Hid okP
      rw [HN.out, HN2.out]
      simp only [Bool.and_eq_false_iff, decide_eq_false_iff_not]
      exact .inl h1
    have h1' : 12 < N ∨ N ≤ 12 ∧ 24 < T := by omega
    clear h1 hR hR2
    rcases h1' with h | ⟨h, h'⟩
    · go_enter Try.func49, Try.ntmps49
      go_wp2
      go_ret
      exact ⟨ret_bool Hg.out.symm, Below.refl _ _⟩
    · go_enter Try.func49, Try.ntmps49
      go_wp2
      go_ret
      exact ⟨ret_bool Hg.out.symm, Below.refl _ _⟩
end Go.Proofs.Ytgfcnkfmgpakkaa
