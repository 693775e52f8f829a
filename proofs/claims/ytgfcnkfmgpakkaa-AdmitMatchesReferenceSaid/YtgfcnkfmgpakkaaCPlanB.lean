/-
The iterator over the slots of a job.
-/
import Derived.Test.YtgfcnkfmgpakkaaCPlanA
import Derived.Test.YtgfcnkfmgpakkaaCFlowK
namespace Go.Proofs.Ytgfcnkfmgpakkaa
open Go.RowKit Go.Shelf
set_option linter.unusedVariables false
set_option maxRecDepth 100000 in
theorem plSlots_any (j : GJob) (w : World) : Calls Try.prog 54 #[aggJ j] w fun e w' => e = .returned (.func (.func 82) #[] #[.pointer (some ⟨w.heap.size, 0, none⟩)]) ∧ w' = w.alloc (.cells #[.int .i64 j.frm, .int .i64 j.till, .int .i64 j.energy, .int .i64 j.rate, .int .i64 j.rank] 25) := by
  unfold aggJ
  go_enter Try.func54, Try.ntmps54
  go_wp2
  go_ret
  exact ⟨rfl, rfl⟩
/-- What a round over the slots may not change. -/
structure KpJ (B b1 : Nat) (W W' : World) : Prop where
  bel : Below B W W'
  s1 : W'.heap[b1]? = W.heap[b1]?
abbrev SlotAt (j : GJob) : Type := { t : Nat // inJ j t }
/-- The slots of a job, in order. -/
def slotsTo (j : GJob) (k : Nat) : List Nat := mk k (fun i => j.frm.toNat + i)
theorem slotsTo_pre (j : GJob) {k m : Nat} (h : k ≤ m) : slotsTo j k <+: slotsTo j m := by
  obtain ⟨d, rfl⟩ := Nat.le.dest h
  induction d with
  | zero => exact List.prefix_refl _
  | succ d ih =>
    refine (ih (by omega)).trans ?_
    rw [← Nat.add_assoc]
    unfold slotsTo
    rw [mk_succ]
    exact List.prefix_append _ _
set_option maxRecDepth 100000 in
set_option maxHeartbeats 2000000 in
theorem plSlots1_in (n : Nat) (hn : 1 ≤ n) (l b1 B : Nat) (j : GJob) (q0 : 0 ≤ j.frm) (q1 : j.frm ≤ j.till) (q2 : j.till ≤ 24) (J Jx : List (SlotAt j) → World → Prop) (W : World)
    (hJ : AbidesFrom W.heap.size J)
    (hY : ∀ (pre : List (SlotAt j)) (x : SlotAt j) W1, J pre W1 → pre.length < lenJ j → YieldAt Fence.wide (n - 1) Try.prog l #[.int .i64 (x.1 : Nat)] W1 fun e W' =>
      (e = .returned (.bool true) ∧ J (pre ++ [x]) W' ∧ KpJ B b1 W1 W') ∨ (e = .returned (.bool false) ∧ Jx (pre ++ [x]) W'))
    (hb0 : W.cell? ⟨b1, 0, none⟩ = some (.int .i64 j.frm)) (hb1 : W.cell? ⟨b1, 1, none⟩ = some (.int .i64 j.till)) (h0 : J [] W) :
    CallsIn Fence.wide n Try.prog 82 #[.func (.yield l) #[] #[], .pointer (some ⟨b1, 0, none⟩)] W fun e W' => (∃ v, e = .returned v) ∧
      ((∃ ys : List (SlotAt j), ys.map (·.1) = slotsTo j (lenJ j) ∧ J ys W') ∨ (∃ pre : List (SlotAt j), pre.map (·.1) <+: slotsTo j (lenJ j) ∧ Jx pre W')) := by
  have HY := Lib.hid hY
  have HJ := Lib.hid hJ
  clear hY hJ
  refine callsIn_of_wp Try.func82 rfl trivial ?_ rfl
  simp only [Try.ntmps82, List.size_toArray, List.length_cons, List.length_nil, Nat.reduceAdd, Nat.reduceSub, Array.replicate_succ, Array.replicate_zero, List.push_toArray, List.append_toArray, List.nil_append, List.cons_append]
  gi_wp2
  gi_loopw [3] (fun i wr => ∃ (k : Nat) (pre : List (SlotAt j)), k ≤ lenJ j ∧ i = .int .i64 (j.frm + k) ∧ pre.map (·.1) = slotsTo j k ∧ J pre wr ∧ wr.cell? ⟨b1, 0, none⟩ = some (.int .i64 j.frm) ∧ wr.cell? ⟨b1, 1, none⟩ = some (.int .i64 j.till)) (fun i _ => (j.till - intOf i).toNat)
  case atStart => exact ⟨0, [], Nat.zero_le _, by simp, rfl, h0, hb0, hb1⟩
  case round =>
    clear hb0 hb1 h0
    obtain ⟨k, pre, hk, rfl, hpre, hJp, c0, c1⟩ := hrel
    have Hpre := Lib.hid hpre
    clear hpre
    have hlj : (lenJ j : Int) = j.till - j.frm := by unfold lenJ; omega
    by_cases hlt : k < lenJ j
    · have hltz : j.frm + (k : Int) < j.till := by omega
      have hin : inJ j (j.frm.toNat + k) := by unfold inJ; omega
      have hpl : pre.length < lenJ j := by
        have := congrArg List.length Hpre.out
        simp [slotsTo, mk_len] at this
        omega
      obtain ⟨fn, tmps, assign, body, hy, hR⟩ := HY.out pre ⟨j.frm.toNat + k, hin⟩ wr hJp hpl
      have he : ((j.frm.toNat + k : Nat) : Int) = j.frm + (k : Int) := by omega
      dsimp only at hy
      rw [he] at hy
      have Hsn : Hid ((pre ++ [(⟨j.frm.toNat + k, hin⟩ : SlotAt j)]).map (·.1) = slotsTo j (k + 1)) := Lib.hid (by rw [List.map_append, Hpre.out]; unfold slotsTo; rw [mk_succ]; rfl)
      gi_wp2
      refine hR.mono ?_
      rintro e' W3 (⟨rfl, hJ3, hk3⟩ | ⟨rfl, hJx3⟩)
      · have d0 := (World.cell?_of_block (a := ⟨b1, 0, none⟩) hk3.s1).trans c0
        have d1 := (World.cell?_of_block (a := ⟨b1, 1, none⟩) hk3.s1).trans c1
        gi_wp2
        go_roundw
        case rel => exact ⟨k + 1, _, hlt, by rw [show j.frm + (k : Int) + 1 = j.frm + ((k + 1 : Nat) : Int) by omega], Hsn.out, hJ3, d0, d1⟩
        case measure => simp [intOf]; omega
      · gi_wp2
        refine bodyPost_ret (results_none rfl _ _ _) rfl ?_
        refine ⟨⟨_, rfl⟩, .inr ⟨_, ?_, hJx3⟩⟩
        rw [Hsn.out]
        exact slotsTo_pre j hlt
    · have hltz : ¬ j.frm + (k : Int) < j.till := by omega
      have hkk : Hid (k = lenJ j) := Lib.hid (by omega)
      clear hlj
      gi_wp2
      go_end0
      exact ⟨⟨_, rfl⟩, .inl ⟨pre, (by rw [← hkk.out]; exact Hpre.out), hJp⟩⟩
end Go.Proofs.Ytgfcnkfmgpakkaa
