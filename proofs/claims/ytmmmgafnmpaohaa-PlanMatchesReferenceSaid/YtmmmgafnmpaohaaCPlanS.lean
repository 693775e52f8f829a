/-
Contracts of plan.chosen and of the two closures of plan.Schedule.
-/
import Derived.Test.YtmmmgafnmpaohaaCPlanC
import Derived.Test.YtmmmgafnmpaohaaCAppI
namespace Go.Proofs.Ytmmmgafnmpaohaa
open Go.RowKit
set_option linter.unusedVariables false
theorem plSched1_any (i : Nat) (w : World) (hi : i ≤ 1000) : Calls Try.prog 36 #[.int .i64 i] w fun e w' => e = .returned (.int .i64 ((2 + i : Nat) : Int)) ∧ w' = w := by
  go_enter Try.func36, Try.ntmps36
  go_wp2
  go_ret
  exact ⟨ret_int (by omega), rfl⟩
theorem plSched2_any (i b o N c : Nat) (A : Option Addr) (w : World) (hi : i ≤ 1000) (hN : N ≤ 1000) (hc : w.cell? ⟨b, o, none⟩ = some (.slice A N c)) : Calls Try.prog 37 #[.int .i64 i, .pointer (some ⟨b, o, none⟩)] w fun e w' => e = .returned (.int .i64 ((2 + N + i : Nat) : Int)) ∧ w' = w := by
  go_enter Try.func37, Try.ntmps37
  go_wp2
  go_ret
  exact ⟨ret_int (by omega), rfl⟩
/-- The places below k whose node, off + place, is on the side. -/
def chosenTo (sd : List Bool) (off k : Nat) : List Int := ((List.range k).filter (fun i => bAt sd (off + i))).map (fun (i : Nat) => (i : Int))
theorem chosen_yes {sd : List Bool} {off k : Nat} (h : bAt sd (off + k) = true) : chosenTo sd off (k + 1) = chosenTo sd off k ++ [(k : Int)] := by
  unfold chosenTo
  rw [List.range_succ, List.filter_append]
  simp [h]
theorem chosen_no {sd : List Bool} {off k : Nat} (h : bAt sd (off + k) = false) : chosenTo sd off (k + 1) = chosenTo sd off k := by
  unfold chosenTo
  rw [List.range_succ, List.filter_append]
  simp [h]
theorem chosen_len (sd : List Bool) (off k : Nat) : (chosenTo sd off k).length ≤ k := by
  unfold chosenTo
  rw [List.length_map]
  have := List.length_filter_le (fun i => bAt sd (off + i)) (List.range k)
  simpa using this
set_option maxRecDepth 100000 in
set_option maxHeartbeats 1600000 in
theorem plChosen_1 (A : Option Addr) (n M c : Nat) (sd : List Bool) (w : World)  (hR : Rd 1 encB w A sd) (HM : Hid (sd.length = M)) (hM : M ≤ 1000) (hn : 2 + n ≤ M) :
    Calls Try.prog 41 #[.int .i64 n, .slice A M c, (.func (.func 36) #[] #[])] w fun e w' => ∃ v, e = .returned v ∧ OwnL w' w.heap.size v (chosenTo sd 2 n) ∧ Below w.heap.size w w' := by
  have HR := Lib.hid hR
  clear hR
  go_enter Try.func41, Try.ntmps41
  go_wp2
  go_loopg [7, 10] n (fun g1 v7 v10 wr => ∃ k : Nat, v10 = .int .i64 k ∧ k ≤ n ∧ n - k ≤ g1 ∧ Hid (OwnL wr w.heap.size v7 (chosenTo sd 2 k)) ∧ Hid (Below w.heap.size w wr))
  case atStart => exact ⟨0, by go_num, by omega, by omega, Lib.hid (by simpa [chosenTo] using OwnL.nil _ _), Lib.hid (Below.refl _ _)⟩
  case round =>
    obtain ⟨k, rfl, hk, hg, HO, HB⟩ := hrel
    by_cases hlt : k < n
    · have hltz : (k : Int) < (n : Int) := by omega
      obtain ⟨b, o, hA, hbl, hc0⟩ := (HR.out.keep HB.out).bool (k := 2 + k) (by rw [HM.out]; omega)
      have hc1 : wr.cell? ⟨b, o + (2 + k), none⟩ = some (.bool (bAt sd (2 + k))) := hc0
      have hnz : ((2 + k : Nat) : Int) < (M : Int) := by omega
      have HC : Hid (∀ W', Below wr.heap.size wr W' → Calls Try.prog 36 #[.int .i64 k] W' fun e w' => e = .returned (.int .i64 ((2 + k : Nat) : Int)) ∧ w' = W') := Lib.hid (fun W' _ => plSched1_any k W' (by omega))
      obtain ⟨nd, hnd⟩ : ∃ nd, nd = 2 + k := ⟨_, rfl⟩
      have HND := Lib.hid hnd
      rw [← hnd] at hnz hc1 HC
      have hcl := chosen_len sd 2 k
      subst hA
      clear hc0 hnd
      cases hs : bAt sd nd
      · have HO2 : Hid (OwnL wr w.heap.size _ (chosenTo sd 2 (k + 1))) := Lib.hid (by rw [chosen_no (by rw [← HND.out]; exact hs)]; exact HO.out)
        rw [hs] at hc1
        clear HO hs
        go_wp2_with fail
        refine (HC.out wr (Below.refl _ _)).mono ?_
        rintro e w' ⟨rfl, rfl⟩
        go_wp2
        go_roundg (n - (k + 1))
        case measure => omega
        case rel => exact ⟨k + 1, by go_num, by omega, by omega, HO2, HB⟩
      · obtain ⟨ap, v', w4, av, aw, hown', hmod, _⟩ := app_int (k : Int) HO.out HB.out.size (by omega)
        have HO2 : Hid (OwnL w4 w.heap.size v' (chosenTo sd 2 (k + 1))) := Lib.hid (by rw [chosen_yes (by rw [← HND.out]; exact hs)]; exact hown')
        have HB2 : Hid (Below w.heap.size w w4) := Lib.hid (HB.out.trans (HO.out.below hmod HB.out.size))
        rw [hs] at hc1
        clear hown' hmod HO hs
        go_wp2_with fail
        refine (HC.out wr (Below.refl _ _)).mono ?_
        rintro e w' ⟨rfl, rfl⟩
        go_wp2
        go_roundg (n - (k + 1))
        case measure => omega
        case rel => exact ⟨k + 1, by go_num, by omega, by omega, HO2, HB2⟩
    · have hltz : ¬ (k : Int) < (n : Int) := by omega
      have hkn : k = n := by omega
      subst hkn
      go_wp2
      go_ret
      exact ⟨_, rfl, HO.out, HB.out⟩
set_option maxRecDepth 100000 in
set_option maxHeartbeats 1600000 in
theorem plChosen_2 (A : Option Addr) (n M c : Nat) (sd : List Bool) (w : World) (N cj bp : Nat) (Aj : Option Addr) (hp : w.cell? ⟨bp, 0, none⟩ = some (.slice Aj N cj)) (lp : bp < w.heap.size) (hR : Rd 1 encB w A sd) (HM : Hid (sd.length = M)) (hM : M ≤ 1000) (hn : 2 + N + n ≤ M) :
    Calls Try.prog 41 #[.int .i64 n, .slice A M c, (.func (.func 37) #[] #[.pointer (some ⟨bp, 0, none⟩)])] w fun e w' => ∃ v, e = .returned v ∧ OwnL w' w.heap.size v (chosenTo sd (2 + N) n) ∧ Below w.heap.size w w' := by
  have HR := Lib.hid hR
  clear hR
  go_enter Try.func41, Try.ntmps41
  go_wp2
  go_loopg [7, 10] n (fun g1 v7 v10 wr => ∃ k : Nat, v10 = .int .i64 k ∧ k ≤ n ∧ n - k ≤ g1 ∧ Hid (OwnL wr w.heap.size v7 (chosenTo sd (2 + N) k)) ∧ Hid (Below w.heap.size w wr))
  case atStart => exact ⟨0, by go_num, by omega, by omega, Lib.hid (by simpa [chosenTo] using OwnL.nil _ _), Lib.hid (Below.refl _ _)⟩
  case round =>
    obtain ⟨k, rfl, hk, hg, HO, HB⟩ := hrel
    by_cases hlt : k < n
    · have hltz : (k : Int) < (n : Int) := by omega
      obtain ⟨b, o, hA, hbl, hc0⟩ := (HR.out.keep HB.out).bool (k := (2 + N) + k) (by rw [HM.out]; omega)
      have hc1 : wr.cell? ⟨b, o + ((2 + N) + k), none⟩ = some (.bool (bAt sd ((2 + N) + k))) := hc0
      have hnz : (((2 + N) + k : Nat) : Int) < (M : Int) := by omega
      have HC : Hid (∀ W', Below wr.heap.size wr W' → Calls Try.prog 37 #[.int .i64 k, .pointer (some ⟨bp, 0, none⟩)] W' fun e w' => e = .returned (.int .i64 ((2 + N + k : Nat) : Int)) ∧ w' = W') := Lib.hid (fun W' hW => plSched2_any k bp 0 N cj Aj W' (by omega) (by omega) ((hW.cell (p := ⟨bp, 0, none⟩) (Nat.lt_of_lt_of_le lp HB.out.size)).trans ((HB.out.cell (p := ⟨bp, 0, none⟩) lp).trans hp)))
      obtain ⟨nd, hnd⟩ : ∃ nd, nd = (2 + N) + k := ⟨_, rfl⟩
      have HND := Lib.hid hnd
      rw [← hnd] at hnz hc1 HC
      have hcl := chosen_len sd (2 + N) k
      subst hA
      clear hc0 hnd
      cases hs : bAt sd nd
      · have HO2 : Hid (OwnL wr w.heap.size _ (chosenTo sd (2 + N) (k + 1))) := Lib.hid (by rw [chosen_no (by rw [← HND.out]; exact hs)]; exact HO.out)
        rw [hs] at hc1
        clear HO hs
        go_wp2_with fail
        refine (HC.out wr (Below.refl _ _)).mono ?_
        rintro e w' ⟨rfl, rfl⟩
        go_wp2
        go_roundg (n - (k + 1))
        case measure => omega
        case rel => exact ⟨k + 1, by go_num, by omega, by omega, HO2, HB⟩
      · obtain ⟨ap, v', w4, av, aw, hown', hmod, _⟩ := app_int (k : Int) HO.out HB.out.size (by omega)
        have HO2 : Hid (OwnL w4 w.heap.size v' (chosenTo sd (2 + N) (k + 1))) := Lib.hid (by rw [chosen_yes (by rw [← HND.out]; exact hs)]; exact hown')
        have HB2 : Hid (Below w.heap.size w w4) := Lib.hid (HB.out.trans (HO.out.below hmod HB.out.size))
        rw [hs] at hc1
        clear hown' hmod HO hs
        go_wp2_with fail
        refine (HC.out wr (Below.refl _ _)).mono ?_
        rintro e w' ⟨rfl, rfl⟩
        go_wp2
        go_roundg (n - (k + 1))
        case measure => omega
        case rel => exact ⟨k + 1, by go_num, by omega, by omega, HO2, HB2⟩
    · have hltz : ¬ (k : Int) < (n : Int) := by omega
      have hkn : k = n := by omega
      subst hkn
      go_wp2
      go_ret
      exact ⟨_, rfl, HO.out, HB.out⟩
end Go.Proofs.Ytmmmgafnmpaohaa
