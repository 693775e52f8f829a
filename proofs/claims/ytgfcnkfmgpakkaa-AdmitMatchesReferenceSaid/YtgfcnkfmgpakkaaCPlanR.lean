/-
plan.CheckPlan, walked.
-/
import Derived.Test.YtgfcnkfmgpakkaaGPlanC
import Derived.Laws.CopyOwn
namespace Go.Proofs.Ytgfcnkfmgpakkaa
open Go.RowKit
set_option linter.unusedVariables false
/-- copy(dst, src) into a row of the call's own that is as long as the source. -/
theorem copy_ints (W : World) (g : Nat) (A2 : Option Addr) (T c2 cd : Nat) (sup : List Int) (hR : Rd 1 encI W A2 sup) (hN : sup.length = T) {f : Nat → Value} (ho : Own W g 3 T f) :
    ∃ W1, (Builtin.copy_ #[23, 23] 3 #[.slice (some ⟨g, 0, none⟩) T cd, .slice A2 T c2]).run Try.prog W = .ok (.int .i64 T) W1 ∧ Own W1 g 3 T (fun t => .int .i64 (fAt sup t)) ∧ Mod (fun k => k = g) W W1 := by
  rcases Nat.eq_zero_or_pos T with h0 | h0
  · subst h0
    exact ⟨W, run_copy_none W 23 23 3 3 _ A2 0 cd 0 c2 Try.underlying23 (by kernel_rfl) rfl, ho.congr (fun i hi => absurd hi (Nat.not_lt_zero _)), Mod.refl _ _⟩
  · obtain ⟨cur, hcur, hcz, _⟩ := ho
    obtain ⟨b, off, rfl, hbl, hc⟩ := hR (by omega)
    have hlen : (sup.map (fun x => Value.int .i64 x)).length = T := by simpa using hN
    have hrun := run_copy_row (P := Try.prog) W 23 23 3 3 g 0 T cd ⟨b, off, none⟩ T c2 cur 3 (sup.map (fun x => .int .i64 x)) Try.underlying23 (by kernel_rfl) hcur (by rw [hlen]; exact (Nat.min_self _).symm) (fun j v hv => by
      rw [List.getElem?_map] at hv
      obtain ⟨x, hx, rfl⟩ := Option.map_eq_some_iff.1 hv
      have := hc j x hx 0 _ rfl
      by_cases e : j = 0 <;> simpa [Addr.add, e] using this) (by rw [hlen]; omega) (fun v hv => by
      obtain ⟨x, _, rfl⟩ := List.mem_map.1 hv
      rfl)
    rw [hlen] at hrun
    refine ⟨_, hrun, ?_, ?_⟩
    · refine ⟨_, setRow_heap W g _ _ 3 _ hcur, ?_, fun i hi => ?_⟩
      · simp [hN, hcz]
      · have hi2 : i < sup.length := by omega
        have hd : List.drop T cur.toList = [] := List.drop_of_length_le (by simp [hcz])
        simp [hd, List.getElem?_eq_getElem hi2, fAt]
    · exact ⟨rfl, rfl, rfl, by simp [World.setRow], fun k hk hn => setRow_other W g k _ hn⟩
set_option maxRecDepth 100000 in
set_option maxHeartbeats 4000000 in
theorem plCheckPlan_any (A A2 A5 : Option Addr) (c N c2 T c5 N5 : Nat) (js : List GJob) (sup : List Int) (rs : List RowV) (ps : List (List Int)) (w : World) (hR : Rd 5 encJ w A js) (HN : Hid (js.length = N)) (hl : N ≤ 9223372036854775807) (hR2 : Rd 1 encI w A2 sup) (HN2 : Hid (sup.length = T)) (hl2 : T ≤ 9223372036854775807)
    (hR5 : RdP w A5 rs ps) (HN5 : Hid (ps.length = N5)) (hl5 : N5 ≤ 9223372036854775807) :
    Calls Try.prog 33 #[.slice A N c, .slice A2 T c2, .slice A5 N5 c5] w fun e w' => e = .returned (.bool (planB js sup ps)) ∧ Below w.heap.size w w' := by
  go_enter Try.func33, Try.ntmps33
  go_wp2_with fail
  refine (plValid_any A A2 c N c2 T js sup _ hR HN hl hR2 HN2 hl2).mono ?_
  rintro e w1 ⟨rfl, hb1⟩
  cases hok : okP js sup
  · have HF : Hid (planB js sup ps = false) := Lib.hid (planB_not (fun h => by rw [hok] at h; exact absurd h.1 (by simp)))
    go_wp2
    go_ret
    exact ⟨ret_bool HF.out.symm, hb1⟩
  have HOK := Lib.hid hok
  obtain ⟨⟨t1, t2⟩, _, _⟩ := okP_iff.1 hok
  rw [HN.out] at t1
  rw [HN2.out] at t2
  clear hok
  by_cases h5 : N5 = N
  case neg =>
    have HF : Hid (planB js sup ps = false) := Lib.hid (planB_not (fun h => h5 (by rw [← HN.out, ← HN5.out]; exact h.2.1)))
    have hb : ((N5 : Int) == (N : Int)) = false := by rw [beq_eq_false_iff_ne]; omega
    go_wp2
    go_ret
    exact ⟨ret_bool HF.out.symm, hb1⟩
  subst h5
  obtain ⟨mb, hmk, hmb⟩ := mk_opq (P := Try.prog) 23 3 (.int .i64 0) 8 Try.underlying23 infoInt rfl T (by omega) (by omega)
  have HR := Lib.hid (hR.keep hb1)
  have HR2 := Lib.hid (hR2.keep hb1)
  have HR5 := Lib.hid (hR5.keep hb1)
  have HB1 := Lib.hid hb1
  have B0 : Below w1.heap.size w1 (w1.alloc (.cells mb 3)) := (Below.refl _ w1).alloc (Nat.le_refl _) _
  have O0 := hmb w1 _ rfl
  obtain ⟨W1, hcp, o1, b1⟩ := copy_ints (w1.alloc (.cells mb 3)) w1.heap.size A2 T c2 T sup (HR2.out.keep B0) HN2.out O0
  have O1 : Hid (Own W1 w1.heap.size 3 T (fun t => .int .i64 (fAt sup t - S 0 (fun i => pAt ps i t)))) := Lib.hid (o1.congr (fun i hi => val_int (by simp [S])))
  have B1 : Hid (Below w1.heap.size w1 W1) := Lib.hid (B0.trans (b1.below B0.size (fun g hg he => by omega)))
  clear hR hR2 hR5 hb1 hmb B0 O0 o1 b1
  go_wp2
  clear hmk hcp
  go_loopg [34] N5 (fun g1 v34 wr => ∃ k : Nat, v34 = .int .i64 k ∧ k ≤ N5 ∧ N5 - k ≤ g1 ∧ Hid (∀ i, i < k → rowOk js ps sup.length i) ∧ Hid (Own wr w1.heap.size 3 T (fun t => .int .i64 (fAt sup t - S k (fun i => pAt ps i t)))) ∧ Hid (Below w1.heap.size w1 wr))
  case atStart => exact ⟨0, by go_num, by omega, by omega, Lib.hid (fun i hi => absurd hi (Nat.not_lt_zero _)), O1, B1⟩
  case round =>
    clear O1 B1
    obtain ⟨k, rfl, hk, hg, HA, HO, HB⟩ := hrel
    by_cases hlt : k < N5
    · have hltz : (k : Int) < (N5 : Int) := by omega
      have hkj : k < js.length := by rw [HN.out]; exact hlt
      obtain ⟨b, off, j, hA, hbl, hj, g0, g1, g2, g3, g4⟩ := rdJ_at (HR.out.keep HB.out) (k := k) hkj
      have hjk : jAt js k = j := by simp [jAt, hj]
      have HJ := Lib.hid hjk
      have cbb : Hid (Below w1.heap.size w1 (wr.alloc (.cells #[.int .i64 j.frm, .int .i64 j.till, .int .i64 j.energy, .int .i64 j.rate, .int .i64 j.rank] 25))) := Lib.hid (HB.out.alloc HB.out.size _)
      have HO2 := Lib.hid (HO.out.alloc (.cells #[.int .i64 j.frm, .int .i64 j.till, .int .i64 j.energy, .int .i64 j.rate, .int .i64 j.rank] 25))
      obtain ⟨b5, o5, ⟨ra, rn, rc⟩, hA5, hbl5, hc5, hrn, hr63, hrow⟩ := (HR5.out.keep cbb.out).at_ (k := k) (by rw [HN5.out]; exact hlt)
      dsimp only at hc5 hrn hr63 hrow
      by_cases hT : rn = T
      case neg =>
        have HF : Hid (planB js sup ps = false) := Lib.hid (planB_row hkj (fun h => hT (by rw [← hrn, ← HN2.out]; exact h.1)))
        have hb : ((rn : Int) == (T : Int)) = false := by rw [beq_eq_false_iff_ne]; omega
        subst hA5 hA
        clear hj hjk hrn hrow
        as_aux_lemma =>
        go_wp2
        go_ret
        exact ⟨ret_bool HF.out.symm, below_then HB1.out cbb.out⟩
      have hbT : ((rn : Int) == (T : Int)) = true := by rw [hT]; simp
      have HrT : Hid ((rowAt ps k).length = T) := Lib.hid (by rw [hrn, hT])
      have hjo := okP_job HOK.out hkj
      rw [hjk, HN2.out] at hjo
      obtain ⟨f0, f1, f2, f3, f4, f5, f6, _, _⟩ := hjo
      rw [hT] at hc5
      have Hc5 := Lib.hid hc5
      have Hrow := Lib.hid hrow
      subst hA5 hA
      clear hj hjk hrn hrow
      go_wp2
      clear hc5
      generalize hbj : wr.heap.size = bj
      have n0 : (wr.alloc (.cells #[.int .i64 j.frm, .int .i64 j.till, .int .i64 j.energy, .int .i64 j.rate, .int .i64 j.rank] 25)).cell? ⟨bj, 0, none⟩ = some (.int .i64 j.frm) := by rw [← hbj]; go_simp
      have n1 : (wr.alloc (.cells #[.int .i64 j.frm, .int .i64 j.till, .int .i64 j.energy, .int .i64 j.rate, .int .i64 j.rank] 25)).cell? ⟨bj, 1, none⟩ = some (.int .i64 j.till) := by rw [← hbj]; go_simp
      have n2 : (wr.alloc (.cells #[.int .i64 j.frm, .int .i64 j.till, .int .i64 j.energy, .int .i64 j.rate, .int .i64 j.rank] 25)).cell? ⟨bj, 2, none⟩ = some (.int .i64 j.energy) := by rw [← hbj]; go_simp
      have n3 : (wr.alloc (.cells #[.int .i64 j.frm, .int .i64 j.till, .int .i64 j.energy, .int .i64 j.rate, .int .i64 j.rank] 25)).cell? ⟨bj, 3, none⟩ = some (.int .i64 j.rate) := by rw [← hbj]; go_simp
      have hbne : w1.heap.size < bj := by
        have := HO.out.lt
        omega
      have HCJ := Lib.hid (And.intro n0 (And.intro n1 (And.intro n2 n3)))
      clear n0 n1 n2 n3 hbj HO HB g0 g1 g2 g3 g4 hbl
      generalize wr.alloc (.cells #[.int .i64 j.frm, .int .i64 j.till, .int .i64 j.energy, .int .i64 j.rate, .int .i64 j.rank] 25) = W at *
      have HM0 : Hid (Mod (fun g => g = w1.heap.size) W W) := Lib.hid (Mod.refl _ _)
      have hbW : bj < W.heap.size := World.block_lt_of_cell? W _ HCJ.out.1
      have HL5 : Hid (b5 < w1.heap.size) := Lib.hid (by
        obtain ⟨_, _, _, e5, l5, _⟩ := HR5.out.at_ (k := k) (by rw [HN5.out]; exact hlt)
        injection e5 with e5
        injection e5 with e5 _
        rw [e5]; exact l5)
      have HLr : Hid (∀ a : Addr, ra = some a → 0 < (rowAt ps k).length → ¬ a.block = w1.heap.size) := Lib.hid (by
        intro a ha hp he
        obtain ⟨b, off, r', hA', _, hc', _, _, hrow'⟩ := HR5.out.at_ (k := k) (by rw [HN5.out]; exact hlt)
        have hcc := Hc5.out
        injection hA' with hA'
        injection hA' with e1 e2
        subst e1 e2
        have hcw := (cbb.out.cell (p := ⟨b5, o5 + k, none⟩) (HL5.out)).trans hc'
        rw [hcw] at hcc
        injection hcc with hcc
        injection hcc with hcc _ _
        rw [← hcc] at ha
        obtain ⟨bb, oo, hbo, hlo, _⟩ := hrow' hp
        rw [ha] at hbo
        injection hbo with hbo
        rw [hbo] at he
        simp at he
        omega)
      go_loopg [52] T (fun g2 v52 wr => ∃ m : Nat, v52 = .int .i64 m ∧ m ≤ T ∧ T - m ≤ g2 ∧ Hid (∀ t, t < m → okAt j t (pAt ps k t)) ∧ Hid (Own wr w1.heap.size 3 T (fun t => .int .i64 (fAt sup t - S k (fun i => pAt ps i t) - pick (t < m) (pAt ps k t)))) ∧ Hid (Mod (fun g => g = w1.heap.size) W wr))
      case atStart => exact ⟨0, by go_num, by omega, by omega, Lib.hid (fun i hi => absurd hi (Nat.not_lt_zero _)), Lib.hid (HO2.out.congr (fun i _ => by rw [pick_neg (Nat.not_lt_zero _)]; simp)), HM0⟩
      case round =>
        clear HO2 HM0
        obtain ⟨m, rfl, hm, hg2, HM, HO, HMd⟩ := hrel
        have n0 := (HMd.out.cell (p := ⟨bj, 0, none⟩) hbW (by dsimp only; omega)).trans HCJ.out.1
        have n1 := (HMd.out.cell (p := ⟨bj, 1, none⟩) hbW (by dsimp only; omega)).trans HCJ.out.2.1
        have n2 := (HMd.out.cell (p := ⟨bj, 2, none⟩) hbW (by dsimp only; omega)).trans HCJ.out.2.2.1
        have n3 := (HMd.out.cell (p := ⟨bj, 3, none⟩) hbW (by dsimp only; omega)).trans HCJ.out.2.2.2
        have hBr : Hid (Below w1.heap.size w1 wr) := Lib.hid (cbb.out.trans (HMd.out.below cbb.out.size (fun g hg he => by omega)))
        by_cases hmT : m < T
        · have hmz : (m : Int) < (T : Int) := by omega
          have hrw := Hrow.out.mod HMd.out (fun a ha hp => HLr.out a ha hp)
          obtain ⟨b6, o6, hA6, hbl6, hc6⟩ := hrw.int (k := m) (by rw [HrT.out]; exact hmT)
          have hc6' : wr.cell? ⟨b6, o6 + m, none⟩ = some (.int .i64 (pAt ps k m)) := hc6
          have bad : ¬ okAt j m (pAt ps k m) → planB js sup ps = false := fun h => planB_row hkj (fun hh => h (by have := hh.2.1 m (by rw [HN2.out]; exact hmT); rwa [HJ.out] at this))
          have BAD := Lib.hid bad
          subst hA6
          clear hc6 bad hrw
          have bs := rows_bound HOK.out (ps := ps) (k := k) (by omega) HA.out (t := m) (by rw [HN2.out]; exact hmT)
          have bp := okP_sup HOK.out (t := m) (by rw [HN2.out]; exact hmT)
          have x1 := HO.out.cell hmT
          rw [pick_neg (Nat.lt_irrefl _), Int.sub_zero] at x1
          have x2 := HO.out.frozen m
          have HO2 : Hid (Own (wr.setCell ⟨w1.heap.size, m, none⟩ (.int .i64 (fAt sup m - S k (fun i => pAt ps i m) - pAt ps k m))) w1.heap.size 3 T (fun t => .int .i64 (fAt sup t - S k (fun i => pAt ps i t) - pick (t < m + 1) (pAt ps k t)))) := Lib.hid ((HO.out.set m _).congr (fun t ht => by
            by_cases e : t = m
            · subst e; rw [if_pos rfl, pick_pos (Nat.lt_succ_self _)]
            · rw [if_neg e]
              by_cases e2 : t < m
              · rw [pick_pos e2, pick_pos (by omega)]
              · rw [pick_neg e2, pick_neg (by omega)]))
          have HB2 : Hid (Mod (fun g => g = w1.heap.size) W (wr.setCell ⟨w1.heap.size, m, none⟩ (.int .i64 (fAt sup m - S k (fun i => pAt ps i m) - pAt ps k m)))) := Lib.hid (HMd.out.setCell (p := ⟨w1.heap.size, m, none⟩) (.inl rfl) _)
          have HM2 : Hid (okAt j m (pAt ps k m) → ∀ t, t < m + 1 → okAt j t (pAt ps k t)) := Lib.hid (fun h t ht => by
            by_cases e : t = m
            · subst e; exact h
            · exact HM.out t (by omega))
          have HOA : Hid (okAt j m (pAt ps k m) ↔ (0 ≤ pAt ps k m ∧ pAt ps k m ≤ j.rate ∧ (pAt ps k m ≠ 0 → (j.frm ≤ m ∧ (m : Int) < j.till)))) := Lib.hid Iff.rfl
          clear HO HM HMd n2
          generalize S k (fun i => pAt ps i m) = us at *
          generalize okAt j m (pAt ps k m) = OKA at *
          generalize hx : pAt ps k m = x at *
          generalize fAt sup m = sm at *
          clear hx
          cases q1 : insB (m : Int) j.frm (j.till - 1)
          · have hn := insB_false.1 q1
            cases q2 : insB x 0 0
            · have hn2 := insB_false.1 q2
              have HF := Lib.hid (BAD.out (fun h => by have := HOA.out.1 h; by_cases e : x = 0; · omega
                                                       · have := this.2.2 e; omega))
              clear BAD HM2
              as_aux_lemma =>
              go_wp2_with (go_at_call 69; refine (plInside_any _ _ _ _).mono ?_; rintro e w' ⟨rfl, rfl⟩; (try simp only [q1, q2]))
              go_ret
              exact ⟨ret_bool HF.out.symm, below_then HB1.out hBr.out⟩
            · have hn2 := insB_true.1 q2
              have HM3 := Lib.hid (HM2.out (HOA.out.2 ⟨by omega, by omega, fun h => absurd (show x = 0 by omega) h⟩))
              clear BAD HM2
              as_aux_lemma =>
              go_wp2_with (go_at_call 69; refine (plInside_any _ _ _ _).mono ?_; rintro e w' ⟨rfl, rfl⟩; (try simp only [q1, q2]))
              go_roundg (T - (m + 1))
              case measure => omega
              case rel => exact ⟨m + 1, by go_num, by omega, by omega, HM3, HO2, HB2⟩
          · have hn := insB_true.1 q1
            cases q2 : insB x 0 j.rate
            · have hn2 := insB_false.1 q2
              have HF := Lib.hid (BAD.out (fun h => by have := HOA.out.1 h; omega))
              clear BAD HM2
              as_aux_lemma =>
              go_wp2_with (go_at_call 69; refine (plInside_any _ _ _ _).mono ?_; rintro e w' ⟨rfl, rfl⟩; (try simp only [q1, q2]))
              go_ret
              exact ⟨ret_bool HF.out.symm, below_then HB1.out hBr.out⟩
            · have hn2 := insB_true.1 q2
              have HM3 := Lib.hid (HM2.out (HOA.out.2 ⟨by omega, by omega, fun h => by omega⟩))
              clear BAD HM2
              as_aux_lemma =>
              go_wp2_with (go_at_call 69; refine (plInside_any _ _ _ _).mono ?_; rintro e w' ⟨rfl, rfl⟩; (try simp only [q1, q2]))
              go_roundg (T - (m + 1))
              case measure => omega
              case rel => exact ⟨m + 1, by go_num, by omega, by omega, HM3, HO2, HB2⟩
        · have hmz : ¬ (m : Int) < (T : Int) := by omega
          have hmT' : m = T := by omega
          have hc5 := (HMd.out.cell (p := ⟨b5, o5 + k, none⟩) (by have := HL5.out; have := cbb.out.size; dsimp only; omega) (by have := HL5.out; dsimp only; omega)).trans Hc5.out
          have hrw := Hrow.out.mod HMd.out (fun a ha hp => HLr.out a ha hp)
          have hsum := fun (W' : World) (hh : Rd 1 encI W' ra (rowAt ps k)) => plSum_any ra rc T (rowAt ps k) W' hh HrT (by omega) (fun i hi => by
            have := HM.out i (by rw [HrT.out] at hi; omega)
            have := this.1
            have := (HM.out i (by rw [HrT.out] at hi; omega)).2.1
            show -1000000 ≤ pAt ps k i ∧ pAt ps k i ≤ 1000000
            omega)
          have HSUM := Lib.hid hsum
          have Hrw := Lib.hid hrw
          have Hlen : Hid (S (rowAt ps k).length (fAt (rowAt ps k)) = S m (pAt ps k)) := Lib.hid (by rw [HrT.out, hmT'])
          by_cases he : S m (pAt ps k) = j.energy
          · have HRK : Hid (rowOk js ps sup.length k) := Lib.hid ⟨by rw [HrT.out, HN2.out], fun t ht => by rw [HJ.out]; exact HM.out t (by rw [HN2.out] at ht; omega), by rw [HJ.out, HN2.out, ← hmT']; exact he⟩
            have HA2 : Hid (∀ i, i < k + 1 → rowOk js ps sup.length i) := Lib.hid (fun i hi => by
              by_cases e : i = k
              · subst e; exact HRK.out
              · exact HA.out i (by omega))
            have HO2 : Hid (Own wr w1.heap.size 3 T (fun t => .int .i64 (fAt sup t - S (k + 1) (fun i => pAt ps i t)))) := Lib.hid (HO.out.congr (fun t ht => by rw [pick_pos (by omega), S_succ]; exact val_int (by omega)))
            have hb : (S (rowAt ps k).length (fAt (rowAt ps k)) == j.energy) = true := by rw [Hlen.out, he]; simp
            clear HO HM HRK hmT' he hsum hrw Hlen
            generalize S (rowAt ps k).length (fAt (rowAt ps k)) = got at *
            as_aux_lemma =>
            go_wp2_with fail
            go_quiet (first | (go_at_call 53; exact Calls.quiet_of_same (HSUM.out _ (Hrw.out.drewN _))))
            go_wp2
            go_roundg (N5 - (k + 1))
            case measure => omega
            case rel => exact ⟨k + 1, by go_num, by omega, by omega, HA2, by first | exact HO2 | exact Lib.hid (HO2.out.drewN _), by first | exact hBr | exact Lib.hid (below_drewN hBr.out _)⟩
          · have HF : Hid (planB js sup ps = false) := Lib.hid (planB_row hkj (fun h => he (by have := h.2.2; rw [HJ.out, HN2.out, ← hmT'] at this; exact this)))
            have hb : (S (rowAt ps k).length (fAt (rowAt ps k)) == j.energy) = false := by rw [Hlen.out, beq_eq_false_iff_ne]; exact he
            clear HO HM hmT' he hsum hrw Hlen
            generalize S (rowAt ps k).length (fAt (rowAt ps k)) = got at *
            as_aux_lemma =>
            go_wp2_with fail
            go_quiet (first | (go_at_call 53; exact Calls.quiet_of_same (HSUM.out _ (Hrw.out.drewN _))))
            go_wp2
            go_ret
            exact ⟨ret_bool HF.out.symm, below_then HB1.out (by first | exact hBr.out | exact below_drewN hBr.out _)⟩
    · have hltz : ¬ (k : Int) < (N5 : Int) := by omega
      have hkN : k = js.length := by rw [HN.out]; omega
      have HA2 : Hid (∀ i, i < js.length → rowOk js ps sup.length i) := Lib.hid (by rw [← hkN]; exact HA.out)
      have HO2 : Hid (Own wr w1.heap.size 3 T (fun t => .int .i64 (fAt sup t - S js.length (fun i => pAt ps i t)))) := Lib.hid (by rw [← hkN]; exact HO.out)
      clear HA HO hkN
      go_wp2
      generalize hW : wr = W at *
      clear hW
      go_loopg [89] T (fun g2 v89 wr => ∃ m : Nat, v89 = .int .i64 m ∧ m ≤ T ∧ T - m ≤ g2 ∧ Hid (∀ t, t < m → S js.length (fun i => pAt ps i t) ≤ fAt sup t) ∧ W = wr)
      case atStart => exact ⟨0, by go_num, by omega, by omega, Lib.hid (fun i hi => absurd hi (Nat.not_lt_zero _)), rfl⟩
      case round =>
        obtain ⟨m, rfl, hm, hg2, HM, rfl⟩ := hrel
        by_cases hmT : m < T
        · have hmz : (m : Int) < (T : Int) := by omega
          have hms : m < sup.length := by rw [HN2.out]; exact hmT
          have x1 := HO2.out.cell hmT
          by_cases he : S js.length (fun i => pAt ps i m) ≤ fAt sup m
          · have HM2 : Hid (∀ t, t < m + 1 → S js.length (fun i => pAt ps i t) ≤ fAt sup t) := Lib.hid (fun t ht => by
              by_cases e : t = m
              · subst e; exact he
              · exact HM.out t (by omega))
            have d : decide (fAt sup m - S js.length (fun i => pAt ps i m) < 0) = false := by rw [decide_eq_false_iff_not]; omega
            have d' := of_decide_eq_false d
            clear HM he
            generalize fAt sup m - S js.length (fun i => pAt ps i m) = us at *
            as_aux_lemma =>
            go_wp2
            go_roundg (T - (m + 1))
            case measure => omega
            case rel => exact ⟨m + 1, by go_num, by omega, by omega, HM2, rfl⟩
          · have HF : Hid (planB js sup ps = false) := Lib.hid (planB_fits hms he)
            have d : fAt sup m - S js.length (fun i => pAt ps i m) < 0 := by omega
            clear HM he
            generalize fAt sup m - S js.length (fun i => pAt ps i m) = us at *
            as_aux_lemma =>
            go_wp2
            go_ret
            exact ⟨ret_bool HF.out.symm, below_then HB1.out HB.out⟩
        · have hmz : ¬ (m : Int) < (T : Int) := by omega
          have HF : Hid (planB js sup ps = true) := Lib.hid (planB_yes HOK.out (by rw [HN.out, HN5.out]) HA2.out (fun t ht => HM.out t (by rw [HN2.out] at ht; omega)))
          clear HM
          as_aux_lemma =>
          go_wp2
          go_ret
          exact ⟨ret_bool HF.out.symm, below_then HB1.out HB.out⟩
end Go.Proofs.Ytgfcnkfmgpakkaa
