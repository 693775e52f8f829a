/-
Contract of plan.table.
-/
import Derived.Test.YtmmmgafnmpaohaaCPlanC
namespace Go.Proofs.Ytmmmgafnmpaohaa
open Go.RowKit
set_option linter.unusedVariables false
def TablePost (w : World) (R C : Nat) (e : Ending) (w' : World) : Prop :=
  ∃ ga gt, e = .returned (.slice (some ⟨gt, 0, none⟩) R R) ∧ Own w' ga 3 (R * C) (fun _ => .int .i64 0) ∧ Own w' gt 23 R (fun i => .slice (some ⟨ga, i * C, none⟩) C C) ∧ Below w.heap.size w w' ∧ w.heap.size ≤ ga ∧ w.heap.size ≤ gt ∧ ga ≠ gt
set_option maxRecDepth 100000 in
set_option maxHeartbeats 1600000 in
theorem plTable_pos (R C : Nat) (w : World) (hr : R ≤ 12) (hc : C ≤ 24) (hpos : 0 < C) : Calls Try.prog 42 #[.int .i64 R, .int .i64 C] w (TablePost w R C) := by
  have hRC : R * C ≤ 288 := Nat.le_trans (Nat.mul_le_mul hr hc) (by omega)
  obtain ⟨ma, hmk, hma⟩ := mk_opq (P := Try.prog) 23 3 (.int .i64 0) 8 Try.underlying23 infoInt rfl (R * C) (by omega) (by omega)
  obtain ⟨mt, hmk2, hmt⟩ := mk_opq (P := Try.prog) 24 23 (.slice none 0 0) 24 Try.underlying24 infoInts rfl R (by omega) (by omega)
  have hmk' : ∀ W : World, (Instr.makeSlice 23 (.int .i64 ((R : Int) * (C : Int))) (.int .i64 ((R : Int) * (C : Int)))).run Try.prog W = .ok (.slice (some ⟨W.heap.size, 0, none⟩) (R * C) (R * C)) (W.alloc (.cells ma 3)) := by
    intro W
    have := hmk W
    rwa [Int.natCast_mul] at this
  have hb0 : Below w.heap.size w ((w.alloc (.cells ma 3)).alloc (.cells mt 23)) := ((Below.refl _ w).alloc (Nat.le_refl _) _).alloc (by simp) _
  have OA := Lib.hid ((hma w _ rfl).alloc (.cells mt 23))
  have OT := hmt (w.alloc (.cells ma 3)) (w.heap.size + 1) (by simp)
  have HB0 := Lib.hid hb0
  have hRCz : 0 ≤ (R : Int) * (C : Int) ∧ (R : Int) * (C : Int) ≤ 288 := by rw [← Int.natCast_mul]; omega
  have HOT : Hid (Own ((w.alloc (.cells ma 3)).alloc (.cells mt 23)) (w.heap.size + 1) 23 R (fun i => if i < 0 then .slice (some ⟨w.heap.size, i * C, none⟩) C C else .slice none 0 0)) := Lib.hid (OT.congr (fun i _ => by simp))
  clear hma hmt OT hb0 hmk
  go_enter Try.func42, Try.ntmps42
  go_wp2
  clear hmk' hmk2
  generalize (w.alloc (.cells ma 3)).alloc (.cells mt 23) = W at *
  go_loopg [16] R (fun g1 v16 wr => ∃ k : Nat, v16 = .int .i64 k ∧ k ≤ R ∧ R - k ≤ g1 ∧ Hid (Own wr w.heap.size 3 (R * C) (fun _ => .int .i64 0)) ∧ Hid (Own wr (w.heap.size + 1) 23 R (fun i => if i < k then .slice (some ⟨w.heap.size, i * C, none⟩) C C else .slice none 0 0)) ∧ Hid (Below w.heap.size w wr))
  case atStart => exact ⟨0, by go_num, by omega, by omega, OA, HOT, HB0⟩
  case round =>
    clear OA HOT HB0
    obtain ⟨k, rfl, hk, hg, HA, HT, HB⟩ := hrel
    by_cases hlt : k < R
    · have hltz : (k : Int) < (R : Int) := by omega
      have x1 := HT.out.cell hlt
      have x2 := HT.out.frozen k
      have HT2 : Hid (Own (wr.setCell ⟨w.heap.size + 1, k, none⟩ (.slice (some ⟨w.heap.size, k * C, none⟩) C C)) (w.heap.size + 1) 23 R (fun i => if i < k + 1 then .slice (some ⟨w.heap.size, i * C, none⟩) C C else .slice none 0 0)) := Lib.hid ((HT.out.set k _).congr (fun i hi => by
        by_cases e : i = k
        · subst e; simp
        · by_cases e2 : i < k
          · simp [e, e2, show i < k + 1 by omega]
          · simp [e, e2, show ¬ i < k + 1 by omega]))
      have HA2 : Hid (Own (wr.setCell ⟨w.heap.size + 1, k, none⟩ (.slice (some ⟨w.heap.size, k * C, none⟩) C C)) w.heap.size 3 (R * C) (fun _ => .int .i64 0)) := Lib.hid (HA.out.other (by show w.heap.size ≠ w.heap.size + 1; omega) _)
      have HB2 : Hid (Below w.heap.size w (wr.setCell ⟨w.heap.size + 1, k, none⟩ (.slice (some ⟨w.heap.size, k * C, none⟩) C C))) := Lib.hid (HB.out.setCell (p := ⟨w.heap.size + 1, k, none⟩) (Nat.le_succ _) _)
      have m1 : k * C + C ≤ R * C := by rw [← Nat.succ_mul]; exact Nat.mul_le_mul_right _ hlt
      have m2 : ((k : Int) + 1) * (C : Int) = ((k * C + C : Nat) : Int) := by rw [Int.add_mul]; simp
      have m3 : (k : Int) * (C : Int) = ((k * C : Nat) : Int) := by simp
      have m4 : k * C < R * C := by omega
      clear HA HT HB
      generalize k * C = kc at *
      generalize R * C = rc at *
      go_wp2
      go_roundg (R - (k + 1))
      case measure => omega
      case rel => exact ⟨k + 1, by go_num, by omega, by omega, HA2, HT2, HB2⟩
    · have hltz : ¬ (k : Int) < (R : Int) := by omega
      have hkR : k = R := by omega
      subst hkR
      go_wp2
      go_ret
      exact ⟨w.heap.size, w.heap.size + 1, rfl, HA.out, HT.out.congr (fun i hi => by simp [hi]), HB.out, Nat.le_refl _, Nat.le_succ _, by omega⟩
set_option maxRecDepth 100000 in
set_option maxHeartbeats 1600000 in
theorem plTable_zero (R : Nat) (w : World) (hr : R ≤ 12) : Calls Try.prog 42 #[.int .i64 R, .int .i64 0] w (TablePost w R 0) := by
  obtain ⟨ma, hmk, hma⟩ := mk_opq (P := Try.prog) 23 3 (.int .i64 0) 8 Try.underlying23 infoInt rfl 0 (by omega) (by omega)
  obtain ⟨mt, hmk2, hmt⟩ := mk_opq (P := Try.prog) 24 23 (.slice none 0 0) 24 Try.underlying24 infoInts rfl R (by omega) (by omega)
  have hmk' : ∀ W : World, (Instr.makeSlice 23 (.int .i64 0) (.int .i64 0)).run Try.prog W = .ok (.slice (some ⟨W.heap.size, 0, none⟩) 0 0) (W.alloc (.cells ma 3)) := hmk
  have hb0 : Below w.heap.size w ((w.alloc (.cells ma 3)).alloc (.cells mt 23)) := ((Below.refl _ w).alloc (Nat.le_refl _) _).alloc (by simp) _
  have OA := Lib.hid ((hma w _ rfl).alloc (.cells mt 23))
  have OT := hmt (w.alloc (.cells ma 3)) (w.heap.size + 1) (by simp)
  have HB0 := Lib.hid hb0
  have HOT : Hid (Own ((w.alloc (.cells ma 3)).alloc (.cells mt 23)) (w.heap.size + 1) 23 R (fun i => if i < 0 then .slice (some ⟨w.heap.size, 0, none⟩) 0 0 else .slice none 0 0)) := Lib.hid (OT.congr (fun i _ => by simp))
  clear hma hmt OT hb0 hmk
  go_enter Try.func42, Try.ntmps42
  go_wp2
  clear hmk' hmk2
  generalize (w.alloc (.cells ma 3)).alloc (.cells mt 23) = W at *
  go_loopg [16] R (fun g1 v16 wr => ∃ k : Nat, v16 = .int .i64 k ∧ k ≤ R ∧ R - k ≤ g1 ∧ Hid (Own wr w.heap.size 3 (0) (fun _ => .int .i64 0)) ∧ Hid (Own wr (w.heap.size + 1) 23 R (fun i => if i < k then .slice (some ⟨w.heap.size, 0, none⟩) 0 0 else .slice none 0 0)) ∧ Hid (Below w.heap.size w wr))
  case atStart => exact ⟨0, by go_num, by omega, by omega, OA, HOT, HB0⟩
  case round =>
    clear OA HOT HB0
    obtain ⟨k, rfl, hk, hg, HA, HT, HB⟩ := hrel
    by_cases hlt : k < R
    · have hltz : (k : Int) < (R : Int) := by omega
      have x1 := HT.out.cell hlt
      have x2 := HT.out.frozen k
      have HT2 : Hid (Own (wr.setCell ⟨w.heap.size + 1, k, none⟩ (.slice (some ⟨w.heap.size, 0, none⟩) 0 0)) (w.heap.size + 1) 23 R (fun i => if i < k + 1 then .slice (some ⟨w.heap.size, 0, none⟩) 0 0 else .slice none 0 0)) := Lib.hid ((HT.out.set k _).congr (fun i hi => by
        by_cases e : i = k
        · subst e; simp
        · by_cases e2 : i < k
          · simp [e, e2, show i < k + 1 by omega]
          · simp [e, e2, show ¬ i < k + 1 by omega]))
      have HA2 : Hid (Own (wr.setCell ⟨w.heap.size + 1, k, none⟩ (.slice (some ⟨w.heap.size, 0, none⟩) 0 0)) w.heap.size 3 (0) (fun _ => .int .i64 0)) := Lib.hid (HA.out.other (by show w.heap.size ≠ w.heap.size + 1; omega) _)
      have HB2 : Hid (Below w.heap.size w (wr.setCell ⟨w.heap.size + 1, k, none⟩ (.slice (some ⟨w.heap.size, 0, none⟩) 0 0))) := Lib.hid (HB.out.setCell (p := ⟨w.heap.size + 1, k, none⟩) (Nat.le_succ _) _)
      clear HA HT HB
      go_wp2
      go_roundg (R - (k + 1))
      case measure => omega
      case rel => exact ⟨k + 1, by go_num, by omega, by omega, HA2, HT2, HB2⟩
    · have hltz : ¬ (k : Int) < (R : Int) := by omega
      have hkR : k = R := by omega
      subst hkR
      go_wp2
      go_ret
      exact ⟨w.heap.size, w.heap.size + 1, rfl, by rw [Nat.mul_zero]; exact HA.out, HT.out.congr (fun i hi => by simp [hi]), HB.out, Nat.le_refl _, Nat.le_succ _, by omega⟩
theorem plTable_any (R C : Nat) (w : World) (hr : R ≤ 12) (hc : C ≤ 24) : Calls Try.prog 42 #[.int .i64 R, .int .i64 C] w (TablePost w R C) := by
  rcases Nat.eq_zero_or_pos C with h | h
  · subst h
    exact plTable_zero R w hr
  · exact plTable_pos R C w hr hc h
end Go.Proofs.Ytmmmgafnmpaohaa
