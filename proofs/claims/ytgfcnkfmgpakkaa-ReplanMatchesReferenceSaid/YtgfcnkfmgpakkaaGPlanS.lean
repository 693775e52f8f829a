/-
Several texts in one: PlanS, PlanT.
-/
import Derived.Test.YtgfcnkfmgpakkaaGPlanC
import Derived.Test.YtgfcnkfmgpakkaaCAppI
/-
Contracts of plan.chosen and of the two closures of plan.Schedule.
-/
namespace Go.Proofs.Ytgfcnkfmgpakkaa
open Go.RowKit
set_option linter.unusedVariables false
theorem plSched1_any (i : Nat) (w : World) (hi : i ≤ 1000) : Calls Try.prog 51 #[.int .i64 i] w fun e w' => e = .returned (.int .i64 ((2 + i : Nat) : Int)) ∧ w' = w := by
  go_enter Try.func51, Try.ntmps51
  go_wp2
  go_ret
  exact ⟨ret_int (by omega), rfl⟩
theorem plSched2_any (i b o N c : Nat) (A : Option Addr) (w : World) (hi : i ≤ 1000) (hN : N ≤ 1000) (hc : w.cell? ⟨b, o, none⟩ = some (.slice A N c)) : Calls Try.prog 52 #[.int .i64 i, .pointer (some ⟨b, o, none⟩)] w fun e w' => e = .returned (.int .i64 ((2 + N + i : Nat) : Int)) ∧ w' = w := by
  go_enter Try.func52, Try.ntmps52
  go_wp2
  go_ret
  exact ⟨ret_int (by omega), rfl⟩
/-- The places below k whose node, off + place, is on the side. -/
def chosenTo (sd : List Bool) (off k : Nat) : List Int := ((List.range k).filter (fun i => bAt sd (off + i))).map (fun (i : Nat) => (i : Int))
theorem chosen_yes {sd : List Bool} {off k : Nat} (h : bAt sd (off + k) = true) : chosenTo sd off (k + 1) = chosenTo sd off k ++ [(k : Int)] := by
  unfold chosenTo
  rw [List.range_succ, List.filter_append]
  simp [h]
theorem chosen_no {sd : List Bool} {off k : Nat} (h : bAt sd (off + k) = false) : chosenTo sd off (k + 1) = chosenTo sd off k := by
  unfold chosenTo
  rw [List.range_succ, List.filter_append]
  simp [h]
theorem chosen_len (sd : List Bool) (off k : Nat) : (chosenTo sd off k).length ≤ k := by
  unfold chosenTo
  rw [List.length_map]
  have := List.length_filter_le (fun i => bAt sd (off + i)) (List.range k)
  simpa using this
set_option maxRecDepth 100000 in
set_option maxHeartbeats 1600000 in
theorem plChosen_1 (A : Option Addr) (n M c : Nat) (sd : List Bool) (w : World)  (hR : Rd 1 encB w A sd) (HM : Hid (sd.length = M)) (hM : M ≤ 1000) (hn : 2 + n ≤ M) :
    Calls Try.prog 56 #[.int .i64 n, .slice A M c, (.func (.func 51) #[] #[])] w fun e w' => ∃ v, e = .returned v ∧ OwnL w' w.heap.size v (chosenTo sd 2 n) ∧ Below w.heap.size w w' := by
  have HR := Lib.hid hR
  clear hR
  go_enter Try.func56, Try.ntmps56
  go_wp2
  go_loopg [7, 10] n (fun g1 v7 v10 wr => ∃ k : Nat, v10 = .int .i64 k ∧ k ≤ n ∧ n - k ≤ g1 ∧ Hid (OwnL wr w.heap.size v7 (chosenTo sd 2 k)) ∧ Hid (Below w.heap.size w wr))
  case atStart => exact ⟨0, by go_num, by omega, by omega, Lib.hid (by simpa [chosenTo] using OwnL.nil _ _), Lib.hid (Below.refl _ _)⟩
  case round =>
    obtain ⟨k, rfl, hk, hg, HO, HB⟩ := hrel
    by_cases hlt : k < n
    · have hltz : (k : Int) < (n : Int) := by omega
      obtain ⟨b, o, hA, hbl, hc0⟩ := (HR.out.keep HB.out).bool (k := 2 + k) (by rw [HM.out]; omega)
      have hc1 : wr.cell? ⟨b, o + (2 + k), none⟩ = some (.bool (bAt sd (2 + k))) := hc0
      have hnz : ((2 + k : Nat) : Int) < (M : Int) := by omega
      have HC : Hid (∀ W', Below wr.heap.size wr W' → Calls Try.prog 51 #[.int .i64 k] W' fun e w' => e = .returned (.int .i64 ((2 + k : Nat) : Int)) ∧ w' = W') := Lib.hid (fun W' _ => plSched1_any k W' (by omega))
      obtain ⟨nd, hnd⟩ : ∃ nd, nd = 2 + k := ⟨_, rfl⟩
      have HND := Lib.hid hnd
      rw [← hnd] at hnz hc1 HC
      have hcl := chosen_len sd 2 k
      subst hA
      clear hc0 hnd
      cases hs : bAt sd nd
      · have HO2 : Hid (OwnL wr w.heap.size _ (chosenTo sd 2 (k + 1))) := Lib.hid (by rw [chosen_no (by rw [← HND.out]; exact hs)]; exact HO.out)
        rw [hs] at hc1
        clear HO hs
        go_wp2_with fail
        refine (HC.out wr (Below.refl _ _)).mono ?_
        rintro e w' ⟨rfl, rfl⟩
        go_wp2
        go_roundg (n - (k + 1))
        case measure => omega
        case rel => exact ⟨k + 1, by go_num, by omega, by omega, HO2, HB⟩
      · obtain ⟨ap, v', w4, av, aw, hown', hmod, _⟩ := app_int (k : Int) HO.out HB.out.size (by omega)
        have HO2 : Hid (OwnL w4 w.heap.size v' (chosenTo sd 2 (k + 1))) := Lib.hid (by rw [chosen_yes (by rw [← HND.out]; exact hs)]; exact hown')
        have HB2 : Hid (Below w.heap.size w w4) := Lib.hid (HB.out.trans (HO.out.below hmod HB.out.size))
        rw [hs] at hc1
        clear hown' hmod HO hs
        go_wp2_with fail
        refine (HC.out wr (Below.refl _ _)).mono ?_
        rintro e w' ⟨rfl, rfl⟩
        go_wp2
        go_roundg (n - (k + 1))
        case measure => omega
        case rel => exact ⟨k + 1, by go_num, by omega, by omega, HO2, HB2⟩
    · have hltz : ¬ (k : Int) < (n : Int) := by omega
      have hkn : k = n := by omega
      subst hkn
      go_wp2
      go_ret
      exact ⟨_, rfl, HO.out, HB.out⟩
set_option maxRecDepth 100000 in
set_option maxHeartbeats 1600000 in
theorem plChosen_2 (A : Option Addr) (n M c : Nat) (sd : List Bool) (w : World) (N cj bp : Nat) (Aj : Option Addr) (hp : w.cell? ⟨bp, 0, none⟩ = some (.slice Aj N cj)) (lp : bp < w.heap.size) (hR : Rd 1 encB w A sd) (HM : Hid (sd.length = M)) (hM : M ≤ 1000) (hn : 2 + N + n ≤ M) :
    Calls Try.prog 56 #[.int .i64 n, .slice A M c, (.func (.func 52) #[] #[.pointer (some ⟨bp, 0, none⟩)])] w fun e w' => ∃ v, e = .returned v ∧ OwnL w' w.heap.size v (chosenTo sd (2 + N) n) ∧ Below w.heap.size w w' := by
  have HR := Lib.hid hR
  clear hR
  go_enter Try.func56, Try.ntmps56
  go_wp2
  go_loopg [7, 10] n (fun g1 v7 v10 wr => ∃ k : Nat, v10 = .int .i64 k ∧ k ≤ n ∧ n - k ≤ g1 ∧ Hid (OwnL wr w.heap.size v7 (chosenTo sd (2 + N) k)) ∧ Hid (Below w.heap.size w wr))
  case atStart => exact ⟨0, by go_num, by omega, by omega, Lib.hid (by simpa [chosenTo] using OwnL.nil _ _), Lib.hid (Below.refl _ _)⟩
  case round =>
    obtain ⟨k, rfl, hk, hg, HO, HB⟩ := hrel
    by_cases hlt : k < n
    · have hltz : (k : Int) < (n : Int) := by omega
      obtain ⟨b, o, hA, hbl, hc0⟩ := (HR.out.keep HB.out).bool (k := (2 + N) + k) (by rw [HM.out]; omega)
      have hc1 : wr.cell? ⟨b, o + ((2 + N) + k), none⟩ = some (.bool (bAt sd ((2 + N) + k))) := hc0
      have hnz : (((2 + N) + k : Nat) : Int) < (M : Int) := by omega
      have HC : Hid (∀ W', Below wr.heap.size wr W' → Calls Try.prog 52 #[.int .i64 k, .pointer (some ⟨bp, 0, none⟩)] W' fun e w' => e = .returned (.int .i64 ((2 + N + k : Nat) : Int)) ∧ w' = W') := Lib.hid (fun W' hW => plSched2_any k bp 0 N cj Aj W' (by omega) (by omega) ((hW.cell (p := ⟨bp, 0, none⟩) (Nat.lt_of_lt_of_le lp HB.out.size)).trans ((HB.out.cell (p := ⟨bp, 0, none⟩) lp).trans hp)))
      obtain ⟨nd, hnd⟩ : ∃ nd, nd = (2 + N) + k := ⟨_, rfl⟩
      have HND := Lib.hid hnd
      rw [← hnd] at hnz hc1 HC
      have hcl := chosen_len sd (2 + N) k
      subst hA
      clear hc0 hnd
      cases hs : bAt sd nd
      · have HO2 : Hid (OwnL wr w.heap.size _ (chosenTo sd (2 + N) (k + 1))) := Lib.hid (by rw [chosen_no (by rw [← HND.out]; exact hs)]; exact HO.out)
        rw [hs] at hc1
        clear HO hs
        go_wp2_with fail
        refine (HC.out wr (Below.refl _ _)).mono ?_
        rintro e w' ⟨rfl, rfl⟩
        go_wp2
        go_roundg (n - (k + 1))
        case measure => omega
        case rel => exact ⟨k + 1, by go_num, by omega, by omega, HO2, HB⟩
      · obtain ⟨ap, v', w4, av, aw, hown', hmod, _⟩ := app_int (k : Int) HO.out HB.out.size (by omega)
        have HO2 : Hid (OwnL w4 w.heap.size v' (chosenTo sd (2 + N) (k + 1))) := Lib.hid (by rw [chosen_yes (by rw [← HND.out]; exact hs)]; exact hown')
        have HB2 : Hid (Below w.heap.size w w4) := Lib.hid (HB.out.trans (HO.out.below hmod HB.out.size))
        rw [hs] at hc1
        clear hown' hmod HO hs
        go_wp2_with fail
        refine (HC.out wr (Below.refl _ _)).mono ?_
        rintro e w' ⟨rfl, rfl⟩
        go_wp2
        go_roundg (n - (k + 1))
        case measure => omega
        case rel => exact ⟨k + 1, by go_num, by omega, by omega, HO2, HB2⟩
    · have hltz : ¬ (k : Int) < (n : Int) := by omega
      have hkn : k = n := by omega
      subst hkn
      go_wp2
      go_ret
      exact ⟨_, rfl, HO.out, HB.out⟩
end Go.Proofs.Ytgfcnkfmgpakkaa
/-
Contract of plan.table.
-/
namespace Go.Proofs.Ytgfcnkfmgpakkaa
open Go.RowKit
set_option linter.unusedVariables false
def TablePost (w : World) (R C : Nat) (e : Ending) (w' : World) : Prop :=
  ∃ ga gt, e = .returned (.slice (some ⟨gt, 0, none⟩) R R) ∧ Own w' ga 3 (R * C) (fun _ => .int .i64 0) ∧ Own w' gt 23 R (fun i => .slice (some ⟨ga, i * C, none⟩) C C) ∧ Below w.heap.size w w' ∧ w.heap.size ≤ ga ∧ w.heap.size ≤ gt ∧ ga ≠ gt
set_option maxRecDepth 100000 in
set_option maxHeartbeats 1600000 in
theorem plTable_pos (R C : Nat) (w : World) (hr : R ≤ 12) (hc : C ≤ 24) (hpos : 0 < C) : Calls Try.prog 57 #[.int .i64 R, .int .i64 C] w (TablePost w R C) := by
  have hRC : R * C ≤ 288 := Nat.le_trans (Nat.mul_le_mul hr hc) (by omega)
  obtain ⟨ma, hmk, hma⟩ := mk_opq (P := Try.prog) 23 3 (.int .i64 0) 8 Try.underlying23 infoInt rfl (R * C) (by omega) (by omega)
  obtain ⟨mt, hmk2, hmt⟩ := mk_opq (P := Try.prog) 28 23 (.slice none 0 0) 24 Try.underlying28 infoInts rfl R (by omega) (by omega)
  have hmk' : ∀ W : World, (Instr.makeSlice 23 (.int .i64 ((R : Int) * (C : Int))) (.int .i64 ((R : Int) * (C : Int)))).run Try.prog W = .ok (.slice (some ⟨W.heap.size, 0, none⟩) (R * C) (R * C)) (W.alloc (.cells ma 3)) := by
    intro W
    have := hmk W
    rwa [Int.natCast_mul] at this
  have hb0 : Below w.heap.size w ((w.alloc (.cells ma 3)).alloc (.cells mt 23)) := ((Below.refl _ w).alloc (Nat.le_refl _) _).alloc (by simp) _
  have OA := Lib.hid ((hma w _ rfl).alloc (.cells mt 23))
  have OT := hmt (w.alloc (.cells ma 3)) (w.heap.size + 1) (by simp)
  have HB0 := Lib.hid hb0
  have hRCz : 0 ≤ (R : Int) * (C : Int) ∧ (R : Int) * (C : Int) ≤ 288 := by rw [← Int.natCast_mul]; omega
  have HOT : Hid (Own ((w.alloc (.cells ma 3)).alloc (.cells mt 23)) (w.heap.size + 1) 23 R (fun i => if i < 0 then .slice (some ⟨w.heap.size, i * C, none⟩) C C else .slice none 0 0)) := Lib.hid (OT.congr (fun i _ => by simp))
  clear hma hmt OT hb0 hmk
  go_enter Try.func57, Try.ntmps57
  go_wp2
  clear hmk' hmk2
  generalize (w.alloc (.cells ma 3)).alloc (.cells mt 23) = W at *
  go_loopg [16] R (fun g1 v16 wr => ∃ k : Nat, v16 = .int .i64 k ∧ k ≤ R ∧ R - k ≤ g1 ∧ Hid (Own wr w.heap.size 3 (R * C) (fun _ => .int .i64 0)) ∧ Hid (Own wr (w.heap.size + 1) 23 R (fun i => if i < k then .slice (some ⟨w.heap.size, i * C, none⟩) C C else .slice none 0 0)) ∧ Hid (Below w.heap.size w wr))
  case atStart => exact ⟨0, by go_num, by omega, by omega, OA, HOT, HB0⟩
  case round =>
    clear OA HOT HB0
    obtain ⟨k, rfl, hk, hg, HA, HT, HB⟩ := hrel
    by_cases hlt : k < R
    · have hltz : (k : Int) < (R : Int) := by omega
      have x1 := HT.out.cell hlt
      have x2 := HT.out.frozen k
      have HT2 : Hid (Own (wr.setCell ⟨w.heap.size + 1, k, none⟩ (.slice (some ⟨w.heap.size, k * C, none⟩) C C)) (w.heap.size + 1) 23 R (fun i => if i < k + 1 then .slice (some ⟨w.heap.size, i * C, none⟩) C C else .slice none 0 0)) := Lib.hid ((HT.out.set k _).congr (fun i hi => by
        by_cases e : i = k
        · subst e; simp
        · by_cases e2 : i < k
          · simp [e, e2, show i < k + 1 by omega]
          · simp [e, e2, show ¬ i < k + 1 by omega]))
      have HA2 : Hid (Own (wr.setCell ⟨w.heap.size + 1, k, none⟩ (.slice (some ⟨w.heap.size, k * C, none⟩) C C)) w.heap.size 3 (R * C) (fun _ => .int .i64 0)) := Lib.hid (HA.out.other (by show w.heap.size ≠ w.heap.size + 1; omega) _)
      have HB2 : Hid (Below w.heap.size w (wr.setCell ⟨w.heap.size + 1, k, none⟩ (.slice (some ⟨w.heap.size, k * C, none⟩) C C))) := Lib.hid (HB.out.setCell (p := ⟨w.heap.size + 1, k, none⟩) (Nat.le_succ _) _)
      have m1 : k * C + C ≤ R * C := by rw [← Nat.succ_mul]; exact Nat.mul_le_mul_right _ hlt
      have m2 : ((k : Int) + 1) * (C : Int) = ((k * C + C : Nat) : Int) := by rw [Int.add_mul]; simp
      have m3 : (k : Int) * (C : Int) = ((k * C : Nat) : Int) := by simp
      have m4 : k * C < R * C := by omega
      clear HA HT HB
      generalize k * C = kc at *
      generalize R * C = rc at *
      go_wp2
      go_roundg (R - (k + 1))
      case measure => omega
      case rel => exact ⟨k + 1, by go_num, by omega, by omega, HA2, HT2, HB2⟩
    · have hltz : ¬ (k : Int) < (R : Int) := by omega
      have hkR : k = R := by omega
      subst hkR
      go_wp2
      go_ret
      exact ⟨w.heap.size, w.heap.size + 1, rfl, HA.out, HT.out.congr (fun i hi => by simp [hi]), HB.out, Nat.le_refl _, Nat.le_succ _, by omega⟩
set_option maxRecDepth 100000 in
set_option maxHeartbeats 1600000 in
theorem plTable_zero (R : Nat) (w : World) (hr : R ≤ 12) : Calls Try.prog 57 #[.int .i64 R, .int .i64 0] w (TablePost w R 0) := by
  obtain ⟨ma, hmk, hma⟩ := mk_opq (P := Try.prog) 23 3 (.int .i64 0) 8 Try.underlying23 infoInt rfl 0 (by omega) (by omega)
  obtain ⟨mt, hmk2, hmt⟩ := mk_opq (P := Try.prog) 28 23 (.slice none 0 0) 24 Try.underlying28 infoInts rfl R (by omega) (by omega)
  have hmk' : ∀ W : World, (Instr.makeSlice 23 (.int .i64 0) (.int .i64 0)).run Try.prog W = .ok (.slice (some ⟨W.heap.size, 0, none⟩) 0 0) (W.alloc (.cells ma 3)) := hmk
  have hb0 : Below w.heap.size w ((w.alloc (.cells ma 3)).alloc (.cells mt 23)) := ((Below.refl _ w).alloc (Nat.le_refl _) _).alloc (by simp) _
  have OA := Lib.hid ((hma w _ rfl).alloc (.cells mt 23))
  have OT := hmt (w.alloc (.cells ma 3)) (w.heap.size + 1) (by simp)
  have HB0 := Lib.hid hb0
  have HOT : Hid (Own ((w.alloc (.cells ma 3)).alloc (.cells mt 23)) (w.heap.size + 1) 23 R (fun i => if i < 0 then .slice (some ⟨w.heap.size, 0, none⟩) 0 0 else .slice none 0 0)) := Lib.hid (OT.congr (fun i _ => by simp))
  clear hma hmt OT hb0 hmk
  go_enter Try.func57, Try.ntmps57
  go_wp2
  clear hmk' hmk2
  generalize (w.alloc (.cells ma 3)).alloc (.cells mt 23) = W at *
  go_loopg [16] R (fun g1 v16 wr => ∃ k : Nat, v16 = .int .i64 k ∧ k ≤ R ∧ R - k ≤ g1 ∧ Hid (Own wr w.heap.size 3 (0) (fun _ => .int .i64 0)) ∧ Hid (Own wr (w.heap.size + 1) 23 R (fun i => if i < k then .slice (some ⟨w.heap.size, 0, none⟩) 0 0 else .slice none 0 0)) ∧ Hid (Below w.heap.size w wr))
  case atStart => exact ⟨0, by go_num, by omega, by omega, OA, HOT, HB0⟩
  case round =>
    clear OA HOT HB0
    obtain ⟨k, rfl, hk, hg, HA, HT, HB⟩ := hrel
    by_cases hlt : k < R
    · have hltz : (k : Int) < (R : Int) := by omega
      have x1 := HT.out.cell hlt
      have x2 := HT.out.frozen k
      have HT2 : Hid (Own (wr.setCell ⟨w.heap.size + 1, k, none⟩ (.slice (some ⟨w.heap.size, 0, none⟩) 0 0)) (w.heap.size + 1) 23 R (fun i => if i < k + 1 then .slice (some ⟨w.heap.size, 0, none⟩) 0 0 else .slice none 0 0)) := Lib.hid ((HT.out.set k _).congr (fun i hi => by
        by_cases e : i = k
        · subst e; simp
        · by_cases e2 : i < k
          · simp [e, e2, show i < k + 1 by omega]
          · simp [e, e2, show ¬ i < k + 1 by omega]))
      have HA2 : Hid (Own (wr.setCell ⟨w.heap.size + 1, k, none⟩ (.slice (some ⟨w.heap.size, 0, none⟩) 0 0)) w.heap.size 3 (0) (fun _ => .int .i64 0)) := Lib.hid (HA.out.other (by show w.heap.size ≠ w.heap.size + 1; omega) _)
      have HB2 : Hid (Below w.heap.size w (wr.setCell ⟨w.heap.size + 1, k, none⟩ (.slice (some ⟨w.heap.size, 0, none⟩) 0 0))) := Lib.hid (HB.out.setCell (p := ⟨w.heap.size + 1, k, none⟩) (Nat.le_succ _) _)
      clear HA HT HB
      go_wp2
      go_roundg (R - (k + 1))
      case measure => omega
      case rel => exact ⟨k + 1, by go_num, by omega, by omega, HA2, HT2, HB2⟩
    · have hltz : ¬ (k : Int) < (R : Int) := by omega
      have hkR : k = R := by omega
      subst hkR
      go_wp2
      go_ret
      exact ⟨w.heap.size, w.heap.size + 1, rfl, by rw [Nat.mul_zero]; exact HA.out, HT.out.congr (fun i hi => by simp [hi]), HB.out, Nat.le_refl _, Nat.le_succ _, by omega⟩
theorem plTable_any (R C : Nat) (w : World) (hr : R ≤ 12) (hc : C ≤ 24) : Calls Try.prog 57 #[.int .i64 R, .int .i64 C] w (TablePost w R C) := by
  rcases Nat.eq_zero_or_pos C with h | h
  · subst h
    exact plTable_zero R w hr
  · exact plTable_pos R C w hr hc h
end Go.Proofs.Ytgfcnkfmgpakkaa
