/-
Words of the parser: kinds, keys, names; walked.
-/
import Derived.Test.YtbalhbpaholakaaCAppG
import Derived.Test.YtbalhbpaholakaaCSiteMath
import Derived.Deep.QuietTactic
namespace Go.Proofs.Ytbalhbpaholakaa
open Go.RowKit
set_option linter.unusedVariables false
set_option linter.unusedSimpArgs false
set_option maxRecDepth 100000 in
set_option maxHeartbeats 4000000 in
theorem paKind_any (s : ByteArray) (w : World) : Calls Try.prog 135 #[.string s] w fun e w' => ∃ n : Int, e = .returned (.int .i64 n) ∧ (n = 0 ↔ ¬ s.toList ∈ kindL) ∧ w' = w := by
  go_enter Try.func135, Try.ntmps135
  go_wp2
  all_goals
    go_ret
    first | exact ⟨_, rfl, by simp_all [kindL], rfl⟩ | (simp_all [kindL]; done)
noncomputable def inB (l : List (List UInt8)) (s : ByteArray) : Bool := @decide (s.toList ∈ l) (Classical.propDecidable _)
theorem inB_iff {l : List (List UInt8)} {s : ByteArray} : inB l s = true ↔ s.toList ∈ l := @decide_eq_true_iff _ (Classical.propDecidable _)
theorem inB_of {l : List (List UInt8)} {s : ByteArray} {b : Bool} (h : b = true ↔ s.toList ∈ l) : b = inB l s := by
  rw [Bool.eq_iff_iff, inB_iff]; exact h
set_option maxRecDepth 100000 in
set_option maxHeartbeats 4000000 in
theorem paAttr_any (s : ByteArray) (w : World) : Calls Try.prog 131 #[.string s] w fun e w' => e = .returned (.bool (inB attrL s)) ∧ w' = w := by
  go_enter Try.func131, Try.ntmps131
  go_wp2
  all_goals
    go_ret
    first | exact ⟨ret_bool (inB_of (by simp_all [attrL])), rfl⟩ | (exfalso; simp_all; done)
set_option maxRecDepth 100000 in
set_option maxHeartbeats 4000000 in
theorem paArt_any (s : ByteArray) (w : World) : Calls Try.prog 132 #[.string s] w fun e w' => e = .returned (.bool (inB artL s)) ∧ w' = w := by
  go_enter Try.func132, Try.ntmps132
  go_wp2
  all_goals
    go_ret
    first | exact ⟨ret_bool (inB_of (by simp_all [artL])), rfl⟩ | (exfalso; simp_all; done)
set_option maxRecDepth 100000 in
set_option maxHeartbeats 4000000 in
theorem paIsWord_any (s : ByteArray) (w : World) : Calls Try.prog 136 #[.string s] w fun e w' => e = .returned (.bool (inB wordL s)) ∧ w' = w := by
  go_enter Try.func136, Try.ntmps136
  go_wp2
  all_goals
    go_ret
    first | exact ⟨ret_bool (inB_of (by simp_all [wordL])), rfl⟩ | (exfalso; simp_all; done)
set_option maxRecDepth 100000 in
set_option maxHeartbeats 4000000 in
theorem paKey_any (s : ByteArray) (w : World) : Calls Try.prog 130 #[.string s] w fun e w' => e = .returned (.bool (inB keyL s)) ∧ w' = w := by
  have HE : Hid (s.toList ∈ keyL ↔ (s.toList ∈ kindL ∨ s.toList ∈ attrL ∨ s.toList ∈ artL ∨ s.toList ∈ wordL)) := Lib.hid (by unfold keyL; simp only [List.mem_append, or_assoc])
  go_enter Try.func130, Try.ntmps130
  go_wp2_with fail
  refine (paKind_any s w).mono ?_
  rintro e w1 ⟨n, rfl, hn, rfl⟩
  have HN := Lib.hid hn
  clear hn
  by_cases h0 : n = 0
  · have hz : (n != 0) = false := by simp [h0]
    have HK : Hid (¬ s.toList ∈ kindL) := Lib.hid (HN.out.1 h0)
    clear h0
    go_wp2_with fail
    refine (paAttr_any s w1).mono ?_
    rintro e w2 ⟨rfl, rfl⟩
    cases h1 : inB attrL s
    · go_wp2_with fail
      refine (paArt_any s w2).mono ?_
      rintro e w3 ⟨rfl, rfl⟩
      cases h2 : inB artL s
      · go_wp2_with fail
        refine (paIsWord_any s w3).mono ?_
        rintro e w4 ⟨rfl, rfl⟩
        have HF : Hid (inB wordL s = inB keyL s) := Lib.hid (inB_of (by
          have a1 : ¬ s.toList ∈ attrL := fun h => by rw [inB_iff.2 h] at h1; cases h1
          have a2 : ¬ s.toList ∈ artL := fun h => by rw [inB_iff.2 h] at h2; cases h2
          rw [HE.out, inB_iff]
          exact ⟨fun h => .inr (.inr (.inr h)), fun h => h.elim (fun h => absurd h HK.out) (fun h => h.elim (fun h => absurd h a1) (fun h => h.elim (fun h => absurd h a2) id))⟩))
        go_wp2_with fail
        go_ret
        exact ⟨ret_bool HF.out, rfl⟩
      · have HF : Hid (true = inB keyL s) := Lib.hid (inB_of (by rw [HE.out]; exact ⟨fun _ => .inr (.inr (.inl (inB_iff.1 h2))), fun _ => rfl⟩))
        go_wp2_with fail
        go_ret
        exact ⟨ret_bool HF.out, rfl⟩
    · have HF : Hid (true = inB keyL s) := Lib.hid (inB_of (by rw [HE.out]; exact ⟨fun _ => .inr (.inl (inB_iff.1 h1)), fun _ => rfl⟩))
      go_wp2_with fail
      go_ret
      exact ⟨ret_bool HF.out, rfl⟩
  · have hz : (n != 0) = true := by simp [h0]
    have HF : Hid (true = inB keyL s) := Lib.hid (inB_of (by
      rw [HE.out]
      exact ⟨fun _ => .inl (Classical.byContradiction fun h => h0 (HN.out.2 h)), fun _ => rfl⟩))
    clear h0
    go_wp2_with fail
    go_ret
    exact ⟨ret_bool HF.out, rfl⟩
end Go.Proofs.Ytbalhbpaholakaa
