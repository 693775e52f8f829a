/-
Several texts in one: BilA, BilMath, DyA.
-/
import Derived.Test.YtoekpdnpncgeeaaGreatRows
import Derived.Test.YtoekpdnpncgeeaaGreatGBase
import Derived.Defers
import Derived.Recover
import Derived.Outline
import Derived.Laws.Pointers
import Derived.RangeFuncNested
import Derived.RangeFuncBound
import Derived.RangeFuncCalls
import Derived.RangeFuncLeaves
import Derived.Shelf.Abstract
import Derived.Shelf.RegionOpen
import Derived.OwnWalkIn
import Derived.TacticsInMore
import Derived.LoopNIn
import Derived.LoopIn
import Derived.BigRegionIn
import Derived.Deep.DeepCutAuto
import Derived.Deep.RegionLaw
import Derived.Deep.RegionHeld3
import Derived.OwnWalk
import Derived.Deep.QuietTactic
import Derived.BigQuiet
import Derived.Laws.EntriesVeiled
import Derived.StillTailTactics
/-
Package money: need, caught, inside, isAmount, half, checked, the deferred closures; Times, Started and Tax.
-/
namespace Go.Proofs.YtoekpdnpncgeeaaGreat
open Go.RowKit

def amB (n a b : Int) : Bool := decide (a ≤ n ∧ n ≤ b)
theorem amB_true {n a b : Int} (h1 : a ≤ n) (h2 : n ≤ b) : amB n a b = true := by unfold amB; simp [h1, h2]
theorem amB_false {n a b : Int} (h : ¬ (a ≤ n ∧ n ≤ b)) : amB n a b = false := by unfold amB; simp only [h, decide_false]
theorem amB_spec (n a b : Int) : amB n a b = decide (a ≤ n ∧ n ≤ b) := rfl

theorem mInside_any (n a b : Int) (w : World) : Calls Tryz.prog 53 #[.int .i64 n, .int .i64 a, .int .i64 b] w fun e w' => e = .returned (.bool (amB n a b)) ∧ w = w' := by
  by_cases h1 : a ≤ n
  · by_cases h2 : n ≤ b
    · rw [amB_true h1 h2]
      go_enter Tryz.func53, Tryz.ntmps53
      go_wp2
      go_ret
      exact ⟨rfl, rfl⟩
    · rw [amB_false (fun h => h2 h.2)]
      go_enter Tryz.func53, Tryz.ntmps53
      go_wp2
      go_ret
      exact ⟨rfl, rfl⟩
  · rw [amB_false (fun h => h1 h.1)]
    go_enter Tryz.func53, Tryz.ntmps53
    go_wp2
    go_ret
    exact ⟨rfl, rfl⟩
theorem mIsAmount_any (n : Int) (w : World) : Calls Tryz.prog 52 #[.int .i64 n] w fun e w' => e = .returned (.bool (amB n 0 1000000000)) ∧ w = w' := by
  go_enter Tryz.func52, Tryz.ntmps52
  go_wp2_with (go_at_call 53; refine (mInside_any _ _ _ _).mono ?_; rintro e w' ⟨rfl, rfl⟩)
  go_ret
  exact ⟨rfl, rfl⟩
theorem mNeed_yes (k : Int) (w : World) : Calls Tryz.prog 51 #[.bool true, .int .i64 k] w fun e w' => e = .returned (.tuple #[]) ∧ w = w' := by
  go_enter Tryz.func51, Tryz.ntmps51
  go_wp2
  go_end0
  exact ⟨rfl, rfl⟩
theorem mNeed_no (k : Int) (w : World) : Calls Tryz.prog 51 #[.bool false, .int .i64 k] w fun e w' => e = .panicked [{ v := .iface 137 (.agg #[.int .i64 k]), recovered := false }] ∧ w = w' := by
  go_enter Tryz.func51, Tryz.ntmps51
  go_wp2
  exact ⟨rfl, rfl, rfl⟩
theorem mHalf_any (n b : Int) (w : World) (h0 : 0 ≤ n) (h1 : n ≤ 1000000000000000000) (h2 : 1 ≤ b) (h3 : b ≤ 1000000000) :
    Calls Tryz.prog 55 #[.int .i64 n, .int .i64 b] w fun e w' => e = .returned (.int .i64 ((2 * n + b) / (2 * b))) ∧ w = w' := by
  go_enter Tryz.func55, Tryz.ntmps55
  go_wp2
  go_ret
  exact ⟨rfl, rfl⟩
theorem mChecked_yes (n : Int) (w : World) (h : amB n 0 1000000000 = true) : Calls Tryz.prog 54 #[.int .i64 n] w fun e w' => e = .returned (.int .i64 n) ∧ w = w' := by
  have H := Lib.hid h
  clear h
  go_enter Tryz.func54, Tryz.ntmps54
  go_wp2_with (go_at_call 52; refine (mIsAmount_any _ _).mono ?_; rintro e w' ⟨rfl, rfl⟩)
  rw [H.out]
  go_wp2_with (go_at_call 51; refine (mNeed_yes _ _).mono ?_; rintro e w' ⟨rfl, rfl⟩)
  go_ret
  exact ⟨rfl, rfl⟩
theorem mChecked_no (n : Int) (w : World) (h : amB n 0 1000000000 = false) : Calls Tryz.prog 54 #[.int .i64 n] w fun e w' => e = .panicked [{ v := .iface 137 (.agg #[.int .i64 3]), recovered := false }] ∧ w = w' := by
  have H := Lib.hid h
  clear h
  go_enter Tryz.func54, Tryz.ntmps54
  go_wp2_with (go_at_call 52; refine (mIsAmount_any _ _).mono ?_; rintro e w' ⟨rfl, rfl⟩)
  rw [H.out]
  go_wp2_with (go_at_call 51; refine (mNeed_no _ _).mono ?_; rintro e w' ⟨rfl, rfl⟩)
  exact ⟨rfl, rfl, rfl⟩

theorem lt_of_cell {w : World} {b o : Nat} {v : Value} (h : w.cell? ⟨b, o, none⟩ = some v) : b < w.heap.size := by
  rcases Nat.lt_or_ge b w.heap.size with hlt | hge
  · exact hlt
  · simp [World.cell?, Array.getElem?_eq_none hge] at h
theorem mCaught_nil (p : Addr) (w : World) : Calls Tryz.prog 50 #[.nilIface, .pointer (some p)] w fun e w' => e = .returned (.tuple #[]) ∧ w = w' := by
  go_enter Tryz.func50, Tryz.ntmps50
  go_wp2
  refine bodyPost_ret (results_none rfl _ _ _) rfl ?_
  exact ⟨rfl, rfl⟩
theorem mCaught_stop (b : Nat) (x k : Int) (w : World) (hc : w.cell? ⟨b, 0, none⟩ = some (.int .i64 x)) (hf : w.frozen? ⟨b, 0, none⟩ = false) :
    Calls Tryz.prog 50 #[.iface 137 (.agg #[.int .i64 k]), .pointer (some ⟨b, 0, none⟩)] w fun e w' => e = .returned (.tuple #[]) ∧ (w.setCell ⟨b, 0, none⟩ (.int .i64 k)).alloc (.cells #[.int .i64 k] 137) = w' := by
  have hlt : b < w.heap.size := lt_of_cell hc
  have hne : b ≠ w.heap.size := by omega
  have hta : ∀ W : World, (Instr.typeAssert (.iface 137 (.agg #[.int .i64 k])) 20 137 true).run Tryz.prog W = .ok (.tuple #[.agg #[.int .i64 k], .bool true]) W := fun _ => by kernel_rfl
  go_enter Tryz.func50, Tryz.ntmps50
  go_wp2
  go_end0
  exact ⟨rfl, rfl⟩
theorem mTimes1_idle (p : Addr) (w : World) : CallsD Tryz.prog 107 #[.pointer (some p)] .returning w fun e u' w' => e = .returned (.tuple #[]) ∧ u' = .returning ∧ w = w' := by
  refine callsD_of_wpS Tryz.func107 rfl fun c₀ cs hu => ?_
  apply wpS_region
  simp [wpOpsS, go_sem, recoverD, hu, Tryz.ntmps107]
  refine (mCaught_nil p w).mono ?_
  rintro e w' ⟨rfl, rfl⟩
  cases c₀
  simp_all [bodyPostS, results, Tryz.results107]
theorem mTimes1_stop (b : Nat) (x k : Int) (w : World) (hc : w.cell? ⟨b, 0, none⟩ = some (.int .i64 x)) (hf : w.frozen? ⟨b, 0, none⟩ = false) :
    CallsD Tryz.prog 107 #[.pointer (some ⟨b, 0, none⟩)] (.panicking ({ v := .iface 137 (.agg #[.int .i64 k]), recovered := false } :: [])) w fun e u' w' =>
      e = .returned (.tuple #[]) ∧ u' = .panicking ({ v := .iface 137 (.agg #[.int .i64 k]), recovered := true } :: []) ∧ (w.setCell ⟨b, 0, none⟩ (.int .i64 k)).alloc (.cells #[.int .i64 k] 137) = w' := by
  refine callsD_of_wpS Tryz.func107 rfl fun c₀ cs hu => ?_
  apply wpS_region
  simp [wpOpsS, go_sem, recoverD, hu, Tryz.ntmps107]
  refine (mCaught_stop b x k w hc hf).mono ?_
  rintro e w' ⟨rfl, rfl⟩
  simp [bodyPostS, results, Tryz.results107]

theorem mStarted1_idle (p : Addr) (w : World) : CallsD Tryz.prog 81 #[.pointer (some p)] .returning w fun e u' w' => e = .returned (.tuple #[]) ∧ u' = .returning ∧ w = w' := by
  refine callsD_of_wpS Tryz.func81 rfl fun c₀ cs hu => ?_
  apply wpS_region
  simp [wpOpsS, go_sem, recoverD, hu, Tryz.ntmps81]
  refine (mCaught_nil p w).mono ?_
  rintro e w' ⟨rfl, rfl⟩
  cases c₀
  simp_all [bodyPostS, results, Tryz.results81]
theorem mStarted1_stop (b : Nat) (x k : Int) (w : World) (hc : w.cell? ⟨b, 0, none⟩ = some (.int .i64 x)) (hf : w.frozen? ⟨b, 0, none⟩ = false) :
    CallsD Tryz.prog 81 #[.pointer (some ⟨b, 0, none⟩)] (.panicking ({ v := .iface 137 (.agg #[.int .i64 k]), recovered := false } :: [])) w fun e u' w' =>
      e = .returned (.tuple #[]) ∧ u' = .panicking ({ v := .iface 137 (.agg #[.int .i64 k]), recovered := true } :: []) ∧ (w.setCell ⟨b, 0, none⟩ (.int .i64 k)).alloc (.cells #[.int .i64 k] 137) = w' := by
  refine callsD_of_wpS Tryz.func81 rfl fun c₀ cs hu => ?_
  apply wpS_region
  simp [wpOpsS, go_sem, recoverD, hu, Tryz.ntmps81]
  refine (mCaught_stop b x k w hc hf).mono ?_
  rintro e w' ⟨rfl, rfl⟩
  simp [bodyPostS, results, Tryz.results81]

theorem mTax1_idle (p : Addr) (w : World) : CallsD Tryz.prog 49 #[.pointer (some p)] .returning w fun e u' w' => e = .returned (.tuple #[]) ∧ u' = .returning ∧ w = w' := by
  refine callsD_of_wpS Tryz.func49 rfl fun c₀ cs hu => ?_
  apply wpS_region
  simp [wpOpsS, go_sem, recoverD, hu, Tryz.ntmps49]
  refine (mCaught_nil p w).mono ?_
  rintro e w' ⟨rfl, rfl⟩
  cases c₀
  simp_all [bodyPostS, results, Tryz.results49]
theorem mTax1_stop (b : Nat) (x k : Int) (w : World) (hc : w.cell? ⟨b, 0, none⟩ = some (.int .i64 x)) (hf : w.frozen? ⟨b, 0, none⟩ = false) :
    CallsD Tryz.prog 49 #[.pointer (some ⟨b, 0, none⟩)] (.panicking ({ v := .iface 137 (.agg #[.int .i64 k]), recovered := false } :: [])) w fun e u' w' =>
      e = .returned (.tuple #[]) ∧ u' = .panicking ({ v := .iface 137 (.agg #[.int .i64 k]), recovered := true } :: []) ∧ (w.setCell ⟨b, 0, none⟩ (.int .i64 k)).alloc (.cells #[.int .i64 k] 137) = w' := by
  refine callsD_of_wpS Tryz.func49 rfl fun c₀ cs hu => ?_
  apply wpS_region
  simp [wpOpsS, go_sem, recoverD, hu, Tryz.ntmps49]
  refine (mCaught_stop b x k w hc hf).mono ?_
  rintro e w' ⟨rfl, rfl⟩
  simp [bodyPostS, results, Tryz.results49]

/-- What Times answers: the value and the error. -/
def tOk (p q r : Int) : Bool := amB p 0 1000000000 && amB q 0 1000000000 && amB r 1 1000000000
def fitV (v : Int) : Int := if amB v 0 1000000000 then v else 0
def fitE (v : Int) : Int := if amB v 0 1000000000 then 0 else 3
def halfV (n b : Int) : Int := (2 * n + b) / (2 * b)
def timesV (p q r : Int) : Int := if tOk p q r then fitV (halfV (p * q) r) else 0
def timesE (p q r : Int) : Int := if tOk p q r then fitE (halfV (p * q) r) else 1
def startN (p q r : Int) : Int := p * ((q + r - 1) / r)
def startV (p q r : Int) : Int := if tOk p q r then fitV (startN p q r) else 0
def startE (p q r : Int) : Int := if tOk p q r then fitE (startN p q r) else 1
def xOk (p q : Int) : Bool := amB p 0 1000000000 && amB q 0 100000
def taxV (p q : Int) : Int := if xOk p q then fitV (halfV (p * q) 10000) else 0
def taxE (p q : Int) : Int := if xOk p q then fitE (halfV (p * q) 10000) else 1

theorem mul_bd {a b : Int} (h1 : 0 ≤ a) (h2 : a ≤ 1000000000) (h3 : 0 ≤ b) (h4 : b ≤ 1000000000) : 0 ≤ a * b ∧ a * b ≤ 1000000000000000000 :=
  ⟨Int.mul_nonneg h1 h3, Int.le_trans (Int.mul_le_mul h2 h4 h3 (by omega)) (by decide)⟩
theorem amB_of {n a b : Int} (h : amB n a b = true) : a ≤ n ∧ n ≤ b := by unfold amB at h; simpa using h

/-- The three ends of such a function: a bad argument, a result that fits, one that does not. -/
def Ends2 (v k : Int) (w : World) (e : Ending) (w' : World) : Prop := e = .returned (.tuple #[.int .i64 v, .int .i64 k]) ∧ Below w.heap.size w w'
theorem start_bd {q r : Int} (h1 : 0 ≤ q) (h2 : q ≤ 1000000000) (h3 : 1 ≤ r) : (q + r - 1) / r ≤ 1000000000 := by
  have : (q + r - 1) / r ≤ 1000000000 ↔ (q + r - 1) < (1000000000 + 1) * r := by
    rw [← Int.lt_add_one_iff, Int.ediv_lt_iff_lt_mul (by omega)]
  rw [this]
  have : 1000000000 * 1 ≤ 1000000000 * r := Int.mul_le_mul_of_nonneg_left h3 (by omega)
  omega
set_option maxHeartbeats 400000
theorem mTimes_bad (p q r : Int) (w : World) (h : tOk p q r = false) : Calls Tryz.prog 77 #[.int .i64 p, .int .i64 q, .int .i64 r] w (Ends2 0 1 w) := by
  have hmf : ∀ (fn : Fn) (first cap : Array Value) (w : World), (Instr.makeFunc fn first cap).run Tryz.prog w = .ok (.func fn first cap) w := fun _ _ _ _ => rfl
  unfold tOk at h
  cases h1 : amB p 0 1000000000 <;> cases h2 : amB q 0 1000000000 <;> cases h3 : amB r 1 1000000000 <;> simp only [h1, h2, h3, Bool.and_self, Bool.and_true, Bool.and_false, Bool.true_eq_false] at h
  all_goals
    have H1 := Lib.hid h1
    have H2 := Lib.hid h2
    have H3 := Lib.hid h3
    clear h h1 h2 h3
    go_enter_defers Tryz.func77, Tryz.ntmps77
    go_wp2_with (first | (go_at_call 52; refine (mIsAmount_any _ _).mono ?_; rintro e w' ⟨rfl, rfl⟩; rw [H1.out]) | (go_at_call 53; refine (mInside_any _ _ _ _).mono ?_; rintro e w' ⟨rfl, rfl⟩; (first | rw [H2.out] | rw [H3.out])) | (go_at_call 51; refine (mNeed_no _ _).mono ?_; rintro e w' ⟨rfl, rfl⟩))
    refine leaves_cons (f := 107) (args := #[.pointer (some ⟨w.heap.size, 0, none⟩)]) (by simp) (by simp [go_sem]) ?_
    refine (mTimes1_stop w.heap.size 0 1 _ ?_ ?_).mono ?_
    · simp [go_sem]
    · simp [go_sem]
    rintro e u' w'' ⟨rfl, rfl, rfl⟩
    simp [Leaves, settle, results, Tryz.results77, go_sem, Ends2]
    repeat (first | exact Below.refl _ _ | refine Below.alloc ?_ (by simp) _ | refine Below.setCell ?_ (by simp) _)
theorem mTimes_yes (p q r : Int) (w : World) (h : tOk p q r = true) (hv : amB (halfV (p * q) r) 0 1000000000 = true) : Calls Tryz.prog 77 #[.int .i64 p, .int .i64 q, .int .i64 r] w (Ends2 (halfV (p * q) r) 0 w) := by
  have hmf : ∀ (fn : Fn) (first cap : Array Value) (w : World), (Instr.makeFunc fn first cap).run Tryz.prog w = .ok (.func fn first cap) w := fun _ _ _ _ => rfl
  obtain ⟨h12, h3⟩ := Bool.and_eq_true_iff.1 h
  obtain ⟨h1, h2⟩ := Bool.and_eq_true_iff.1 h12
  obtain ⟨p1, p2⟩ := amB_of h1
  obtain ⟨q1, q2⟩ := amB_of h2
  obtain ⟨r1, r2⟩ := amB_of h3
  clear h h12
  obtain ⟨m1, m2⟩ := mul_bd p1 p2 q1 q2
  have H1 := Lib.hid h1
  have H2 := Lib.hid h2
  have H3 := Lib.hid h3
  clear h1 h2 h3
  have HV := Lib.hid hv
  clear hv
  go_enter_defers Tryz.func77, Tryz.ntmps77
  go_wp2_with (first | (go_at_call 52; refine (mIsAmount_any _ _).mono ?_; rintro e w' ⟨rfl, rfl⟩; rw [H1.out]) | (go_at_call 53; refine (mInside_any _ _ _ _).mono ?_; rintro e w' ⟨rfl, rfl⟩; (first | rw [H2.out] | rw [H3.out])) | (go_at_call 51; refine (mNeed_yes _ _).mono ?_; rintro e w' ⟨rfl, rfl⟩) | (go_at_call 55; refine (mHalf_any _ _ _ (by omega) (by omega) (by omega) (by omega)).mono ?_; rintro e w' ⟨rfl, rfl⟩) | (go_at_call 54; refine (mChecked_yes _ _ HV.out).mono ?_; rintro e w' ⟨rfl, rfl⟩))
  refine leaves_cons (f := 107) (args := #[.pointer (some ⟨w.heap.size, 0, none⟩)]) (by simp) (by simp [go_sem]) ?_
  refine (mTimes1_idle ⟨w.heap.size, 0, none⟩ _).mono ?_
  rintro e u' w'' ⟨rfl, rfl, rfl⟩
  simp [Leaves, settle, results, Tryz.results77, go_sem, Ends2]
  exact (Below.refl _ _).alloc (Nat.le_refl _) _
theorem mTimes_no (p q r : Int) (w : World) (h : tOk p q r = true) (hv : amB (halfV (p * q) r) 0 1000000000 = false) : Calls Tryz.prog 77 #[.int .i64 p, .int .i64 q, .int .i64 r] w (Ends2 0 3 w) := by
  have hmf : ∀ (fn : Fn) (first cap : Array Value) (w : World), (Instr.makeFunc fn first cap).run Tryz.prog w = .ok (.func fn first cap) w := fun _ _ _ _ => rfl
  obtain ⟨h12, h3⟩ := Bool.and_eq_true_iff.1 h
  obtain ⟨h1, h2⟩ := Bool.and_eq_true_iff.1 h12
  obtain ⟨p1, p2⟩ := amB_of h1
  obtain ⟨q1, q2⟩ := amB_of h2
  obtain ⟨r1, r2⟩ := amB_of h3
  clear h h12
  obtain ⟨m1, m2⟩ := mul_bd p1 p2 q1 q2
  have H1 := Lib.hid h1
  have H2 := Lib.hid h2
  have H3 := Lib.hid h3
  clear h1 h2 h3
  have HV := Lib.hid hv
  clear hv
  go_enter_defers Tryz.func77, Tryz.ntmps77
  go_wp2_with (first | (go_at_call 52; refine (mIsAmount_any _ _).mono ?_; rintro e w' ⟨rfl, rfl⟩; rw [H1.out]) | (go_at_call 53; refine (mInside_any _ _ _ _).mono ?_; rintro e w' ⟨rfl, rfl⟩; (first | rw [H2.out] | rw [H3.out])) | (go_at_call 51; refine (mNeed_yes _ _).mono ?_; rintro e w' ⟨rfl, rfl⟩) | (go_at_call 55; refine (mHalf_any _ _ _ (by omega) (by omega) (by omega) (by omega)).mono ?_; rintro e w' ⟨rfl, rfl⟩) | (go_at_call 54; refine (mChecked_no _ _ HV.out).mono ?_; rintro e w' ⟨rfl, rfl⟩))
  refine leaves_cons (f := 107) (args := #[.pointer (some ⟨w.heap.size, 0, none⟩)]) (by simp) (by simp [go_sem]) ?_
  refine (mTimes1_stop w.heap.size 0 3 _ ?_ ?_).mono ?_
  · simp [go_sem]
  · simp [go_sem]
  rintro e u' w'' ⟨rfl, rfl, rfl⟩
  simp [Leaves, settle, results, Tryz.results77, go_sem, Ends2]
  repeat (first | exact Below.refl _ _ | refine Below.alloc ?_ (by simp) _ | refine Below.setCell ?_ (by simp) _)
theorem mStarted_bad (p q r : Int) (w : World) (h : tOk p q r = false) : Calls Tryz.prog 47 #[.int .i64 p, .int .i64 q, .int .i64 r] w (Ends2 0 1 w) := by
  have hmf : ∀ (fn : Fn) (first cap : Array Value) (w : World), (Instr.makeFunc fn first cap).run Tryz.prog w = .ok (.func fn first cap) w := fun _ _ _ _ => rfl
  unfold tOk at h
  cases h1 : amB p 0 1000000000 <;> cases h2 : amB q 0 1000000000 <;> cases h3 : amB r 1 1000000000 <;> simp only [h1, h2, h3, Bool.and_self, Bool.and_true, Bool.and_false, Bool.true_eq_false] at h
  all_goals
    have H1 := Lib.hid h1
    have H2 := Lib.hid h2
    have H3 := Lib.hid h3
    clear h h1 h2 h3
    go_enter_defers Tryz.func47, Tryz.ntmps47
    go_wp2_with (first | (go_at_call 52; refine (mIsAmount_any _ _).mono ?_; rintro e w' ⟨rfl, rfl⟩; rw [H1.out]) | (go_at_call 53; refine (mInside_any _ _ _ _).mono ?_; rintro e w' ⟨rfl, rfl⟩; (first | rw [H2.out] | rw [H3.out])) | (go_at_call 51; refine (mNeed_no _ _).mono ?_; rintro e w' ⟨rfl, rfl⟩))
    refine leaves_cons (f := 81) (args := #[.pointer (some ⟨w.heap.size, 0, none⟩)]) (by simp) (by simp [go_sem]) ?_
    refine (mStarted1_stop w.heap.size 0 1 _ ?_ ?_).mono ?_
    · simp [go_sem]
    · simp [go_sem]
    rintro e u' w'' ⟨rfl, rfl, rfl⟩
    simp [Leaves, settle, results, Tryz.results47, go_sem, Ends2]
    repeat (first | exact Below.refl _ _ | refine Below.alloc ?_ (by simp) _ | refine Below.setCell ?_ (by simp) _)
theorem mStarted_yes (p q r : Int) (w : World) (h : tOk p q r = true) (hv : amB (startN p q r) 0 1000000000 = true) : Calls Tryz.prog 47 #[.int .i64 p, .int .i64 q, .int .i64 r] w (Ends2 (startN p q r) 0 w) := by
  have hmf : ∀ (fn : Fn) (first cap : Array Value) (w : World), (Instr.makeFunc fn first cap).run Tryz.prog w = .ok (.func fn first cap) w := fun _ _ _ _ => rfl
  obtain ⟨h12, h3⟩ := Bool.and_eq_true_iff.1 h
  obtain ⟨h1, h2⟩ := Bool.and_eq_true_iff.1 h12
  obtain ⟨p1, p2⟩ := amB_of h1
  obtain ⟨q1, q2⟩ := amB_of h2
  obtain ⟨r1, r2⟩ := amB_of h3
  clear h h12
  have d1 : 0 ≤ (q + r - 1) / r := Int.ediv_nonneg (by omega) (by omega)
  have d2 : (q + r - 1) / r ≤ 1000000000 := start_bd q1 q2 r1
  obtain ⟨m1, m2⟩ := mul_bd p1 p2 d1 d2
  have H1 := Lib.hid h1
  have H2 := Lib.hid h2
  have H3 := Lib.hid h3
  clear h1 h2 h3
  have HV := Lib.hid hv
  clear hv
  go_enter_defers Tryz.func47, Tryz.ntmps47
  go_wp2_with (first | (go_at_call 52; refine (mIsAmount_any _ _).mono ?_; rintro e w' ⟨rfl, rfl⟩; rw [H1.out]) | (go_at_call 53; refine (mInside_any _ _ _ _).mono ?_; rintro e w' ⟨rfl, rfl⟩; (first | rw [H2.out] | rw [H3.out])) | (go_at_call 51; refine (mNeed_yes _ _).mono ?_; rintro e w' ⟨rfl, rfl⟩) | (go_at_call 54; refine (mChecked_yes _ _ HV.out).mono ?_; rintro e w' ⟨rfl, rfl⟩))
  refine leaves_cons (f := 81) (args := #[.pointer (some ⟨w.heap.size, 0, none⟩)]) (by simp) (by simp [go_sem]) ?_
  refine (mStarted1_idle ⟨w.heap.size, 0, none⟩ _).mono ?_
  rintro e u' w'' ⟨rfl, rfl, rfl⟩
  simp [Leaves, settle, results, Tryz.results47, go_sem, Ends2]
  exact (Below.refl _ _).alloc (Nat.le_refl _) _
theorem mStarted_no (p q r : Int) (w : World) (h : tOk p q r = true) (hv : amB (startN p q r) 0 1000000000 = false) : Calls Tryz.prog 47 #[.int .i64 p, .int .i64 q, .int .i64 r] w (Ends2 0 3 w) := by
  have hmf : ∀ (fn : Fn) (first cap : Array Value) (w : World), (Instr.makeFunc fn first cap).run Tryz.prog w = .ok (.func fn first cap) w := fun _ _ _ _ => rfl
  obtain ⟨h12, h3⟩ := Bool.and_eq_true_iff.1 h
  obtain ⟨h1, h2⟩ := Bool.and_eq_true_iff.1 h12
  obtain ⟨p1, p2⟩ := amB_of h1
  obtain ⟨q1, q2⟩ := amB_of h2
  obtain ⟨r1, r2⟩ := amB_of h3
  clear h h12
  have d1 : 0 ≤ (q + r - 1) / r := Int.ediv_nonneg (by omega) (by omega)
  have d2 : (q + r - 1) / r ≤ 1000000000 := start_bd q1 q2 r1
  obtain ⟨m1, m2⟩ := mul_bd p1 p2 d1 d2
  have H1 := Lib.hid h1
  have H2 := Lib.hid h2
  have H3 := Lib.hid h3
  clear h1 h2 h3
  have HV := Lib.hid hv
  clear hv
  go_enter_defers Tryz.func47, Tryz.ntmps47
  go_wp2_with (first | (go_at_call 52; refine (mIsAmount_any _ _).mono ?_; rintro e w' ⟨rfl, rfl⟩; rw [H1.out]) | (go_at_call 53; refine (mInside_any _ _ _ _).mono ?_; rintro e w' ⟨rfl, rfl⟩; (first | rw [H2.out] | rw [H3.out])) | (go_at_call 51; refine (mNeed_yes _ _).mono ?_; rintro e w' ⟨rfl, rfl⟩) | (go_at_call 54; refine (mChecked_no _ _ HV.out).mono ?_; rintro e w' ⟨rfl, rfl⟩))
  refine leaves_cons (f := 81) (args := #[.pointer (some ⟨w.heap.size, 0, none⟩)]) (by simp) (by simp [go_sem]) ?_
  refine (mStarted1_stop w.heap.size 0 3 _ ?_ ?_).mono ?_
  · simp [go_sem]
  · simp [go_sem]
  rintro e u' w'' ⟨rfl, rfl, rfl⟩
  simp [Leaves, settle, results, Tryz.results47, go_sem, Ends2]
  repeat (first | exact Below.refl _ _ | refine Below.alloc ?_ (by simp) _ | refine Below.setCell ?_ (by simp) _)
theorem mTax_bad (p q : Int) (w : World) (h : xOk p q = false) : Calls Tryz.prog 29 #[.int .i64 p, .int .i64 q] w (Ends2 0 1 w) := by
  have hmf : ∀ (fn : Fn) (first cap : Array Value) (w : World), (Instr.makeFunc fn first cap).run Tryz.prog w = .ok (.func fn first cap) w := fun _ _ _ _ => rfl
  unfold xOk at h
  cases h1 : amB p 0 1000000000 <;> cases h2 : amB q 0 100000 <;> simp only [h1, h2, Bool.and_self, Bool.true_eq_false] at h
  all_goals
    have H1 := Lib.hid h1
    have H2 := Lib.hid h2
    clear h h1 h2
    go_enter_defers Tryz.func29, Tryz.ntmps29
    go_wp2_with (first | (go_at_call 52; refine (mIsAmount_any _ _).mono ?_; rintro e w' ⟨rfl, rfl⟩; rw [H1.out]) | (go_at_call 53; refine (mInside_any _ _ _ _).mono ?_; rintro e w' ⟨rfl, rfl⟩; rw [H2.out]) | (go_at_call 51; refine (mNeed_no _ _).mono ?_; rintro e w' ⟨rfl, rfl⟩))
    refine leaves_cons (f := 49) (args := #[.pointer (some ⟨w.heap.size, 0, none⟩)]) (by simp) (by simp [go_sem]) ?_
    refine (mTax1_stop w.heap.size 0 1 _ ?_ ?_).mono ?_
    · simp [go_sem]
    · simp [go_sem]
    rintro e u' w'' ⟨rfl, rfl, rfl⟩
    simp [Leaves, settle, results, Tryz.results29, go_sem, Ends2]
    repeat (first | exact Below.refl _ _ | refine Below.alloc ?_ (by simp) _ | refine Below.setCell ?_ (by simp) _)
theorem mTax_yes (p q : Int) (w : World) (h : xOk p q = true) (hv : amB (halfV (p * q) 10000) 0 1000000000 = true) : Calls Tryz.prog 29 #[.int .i64 p, .int .i64 q] w (Ends2 (halfV (p * q) 10000) 0 w) := by
  have hmf : ∀ (fn : Fn) (first cap : Array Value) (w : World), (Instr.makeFunc fn first cap).run Tryz.prog w = .ok (.func fn first cap) w := fun _ _ _ _ => rfl
  obtain ⟨h1, h2⟩ := Bool.and_eq_true_iff.1 h
  obtain ⟨p1, p2⟩ := amB_of h1
  obtain ⟨q1, q2⟩ := amB_of h2
  obtain ⟨m1, m2⟩ := mul_bd p1 p2 q1 (by omega)
  clear h
  have H1 := Lib.hid h1
  have H2 := Lib.hid h2
  clear h1 h2
  have HV := Lib.hid hv
  clear hv
  go_enter_defers Tryz.func29, Tryz.ntmps29
  go_wp2_with (first | (go_at_call 52; refine (mIsAmount_any _ _).mono ?_; rintro e w' ⟨rfl, rfl⟩; rw [H1.out]) | (go_at_call 53; refine (mInside_any _ _ _ _).mono ?_; rintro e w' ⟨rfl, rfl⟩; rw [H2.out]) | (go_at_call 51; refine (mNeed_yes _ _).mono ?_; rintro e w' ⟨rfl, rfl⟩) | (go_at_call 55; refine (mHalf_any _ _ _ (by omega) (by omega) (by omega) (by omega)).mono ?_; rintro e w' ⟨rfl, rfl⟩) | (go_at_call 54; refine (mChecked_yes _ _ HV.out).mono ?_; rintro e w' ⟨rfl, rfl⟩))
  refine leaves_cons (f := 49) (args := #[.pointer (some ⟨w.heap.size, 0, none⟩)]) (by simp) (by simp [go_sem]) ?_
  refine (mTax1_idle ⟨w.heap.size, 0, none⟩ _).mono ?_
  rintro e u' w'' ⟨rfl, rfl, rfl⟩
  simp [Leaves, settle, results, Tryz.results29, go_sem, Ends2]
  exact (Below.refl _ _).alloc (Nat.le_refl _) _
theorem mTax_no (p q : Int) (w : World) (h : xOk p q = true) (hv : amB (halfV (p * q) 10000) 0 1000000000 = false) : Calls Tryz.prog 29 #[.int .i64 p, .int .i64 q] w (Ends2 0 3 w) := by
  have hmf : ∀ (fn : Fn) (first cap : Array Value) (w : World), (Instr.makeFunc fn first cap).run Tryz.prog w = .ok (.func fn first cap) w := fun _ _ _ _ => rfl
  obtain ⟨h1, h2⟩ := Bool.and_eq_true_iff.1 h
  obtain ⟨p1, p2⟩ := amB_of h1
  obtain ⟨q1, q2⟩ := amB_of h2
  obtain ⟨m1, m2⟩ := mul_bd p1 p2 q1 (by omega)
  clear h
  have H1 := Lib.hid h1
  have H2 := Lib.hid h2
  clear h1 h2
  have HV := Lib.hid hv
  clear hv
  go_enter_defers Tryz.func29, Tryz.ntmps29
  go_wp2_with (first | (go_at_call 52; refine (mIsAmount_any _ _).mono ?_; rintro e w' ⟨rfl, rfl⟩; rw [H1.out]) | (go_at_call 53; refine (mInside_any _ _ _ _).mono ?_; rintro e w' ⟨rfl, rfl⟩; rw [H2.out]) | (go_at_call 51; refine (mNeed_yes _ _).mono ?_; rintro e w' ⟨rfl, rfl⟩) | (go_at_call 55; refine (mHalf_any _ _ _ (by omega) (by omega) (by omega) (by omega)).mono ?_; rintro e w' ⟨rfl, rfl⟩) | (go_at_call 54; refine (mChecked_no _ _ HV.out).mono ?_; rintro e w' ⟨rfl, rfl⟩))
  refine leaves_cons (f := 49) (args := #[.pointer (some ⟨w.heap.size, 0, none⟩)]) (by simp) (by simp [go_sem]) ?_
  refine (mTax1_stop w.heap.size 0 3 _ ?_ ?_).mono ?_
  · simp [go_sem]
  · simp [go_sem]
  rintro e u' w'' ⟨rfl, rfl, rfl⟩
  simp [Leaves, settle, results, Tryz.results29, go_sem, Ends2]
  repeat (first | exact Below.refl _ _ | refine Below.alloc ?_ (by simp) _ | refine Below.setCell ?_ (by simp) _)
theorem mTimes_all (p q r : Int) (w : World) : Calls Tryz.prog 77 #[.int .i64 p, .int .i64 q, .int .i64 r] w (Ends2 (timesV p q r) (timesE p q r) w) := by
  unfold timesV timesE
  cases h : tOk p q r
  · exact mTimes_bad p q r w h
  · cases hv : amB (halfV (p * q) r) 0 1000000000
    · simp only [fitV, fitE, hv, if_true]; exact mTimes_no p q r w h hv
    · simp only [fitV, fitE, hv, if_true]; exact mTimes_yes p q r w h hv
theorem mStarted_all (p q r : Int) (w : World) : Calls Tryz.prog 47 #[.int .i64 p, .int .i64 q, .int .i64 r] w (Ends2 (startV p q r) (startE p q r) w) := by
  unfold startV startE
  cases h : tOk p q r
  · exact mStarted_bad p q r w h
  · cases hv : amB (startN p q r) 0 1000000000
    · simp only [fitV, fitE, hv, if_true]; exact mStarted_no p q r w h hv
    · simp only [fitV, fitE, hv, if_true]; exact mStarted_yes p q r w h hv
theorem mTax_all (p q : Int) (w : World) : Calls Tryz.prog 29 #[.int .i64 p, .int .i64 q] w (Ends2 (taxV p q) (taxE p q) w) := by
  unfold taxV taxE
  cases h : xOk p q
  · exact mTax_bad p q w h
  · cases hv : amB (halfV (p * q) 10000) 0 1000000000
    · simp only [fitV, fitE, hv, if_true]; exact mTax_no p q w h hv
    · simp only [fitV, fitE, hv, if_true]; exact mTax_yes p q w h hv
end Go.Proofs.YtoekpdnpncgeeaaGreat
/-
Plain words of calendars, articles, sessions and bills: what the program computes of them.
-/
namespace Go.Proofs.YtoekpdnpncgeeaaGreat
open Go.RowKit
set_option linter.unusedVariables false
structure Chng where
  pos : Int
  off : Int
structure Cal where
  off : Int
  chs : List Chng
  hol : List Int
structure Art where
  kind : Int
  days : Int
  frm : Int
  till : Int
  price : Int
  unit : Int
  free : Int
structure Slc where
  mn : Int
  en : Int
structure Ses where
  frm : Int
  till : Int
  fin : Int
  sl : List Slc
def encChng (c : Chng) : List Value := [.int .i64 c.pos, .int .i64 c.off]
def encArt (a : Art) : List Value := [.int .i64 a.kind, .int .i64 a.days, .int .i64 a.frm, .int .i64 a.till, .int .i64 a.price, .int .i64 a.unit, .int .i64 a.free]
def encSlc (x : Slc) : List Value := [.int .i64 x.mn, .int .i64 x.en]
/-- Strictly increasing, above one number, up to another. -/
def incB (most : Int) : Int → List Int → Bool
  | _, [] => true
  | b, k :: r => decide (b < k) && decide (k ≤ most) && incB most k r
def calB (c : Cal) : Bool := decide (c.chs.length ≤ 16) && (decide (c.hol.length ≤ 32) && (amB c.off (-1440) 1440 && (c.chs.all (fun x => amB x.off (-1440) 1440) && (incB 52560000 (-1) (c.chs.map (·.pos)) && incB 36500 (-1) c.hol))))
/-- The binary search. -/
def lastF (ks : List Int) (n : Int) : Nat → Int → Int → Int
  | 0, lo, _ => lo
  | f + 1, lo, hi => if lo < hi then (if ks[(lo + (hi - lo + 1) / 2).toNat]?.getD 0 ≤ n then lastF ks n f (lo + (hi - lo + 1) / 2) hi else lastF ks n f lo (lo + (hi - lo + 1) / 2 - 1)) else lo
def lastI (ks : List Int) (n : Int) : Int := lastF ks n ks.length (-1) (ks.length - 1)
def offAt (c : Cal) (m : Int) : Int := if 0 ≤ lastI (c.chs.map (·.pos)) m then (c.chs[(lastI (c.chs.map (·.pos)) m).toNat]?.map (·.off)).getD 0 else c.off
def locD (c : Cal) (m : Int) : Int := (m + offAt c m) / 1440
def locM (c : Cal) (m : Int) : Int := (m + offAt c m) % 1440
def weekV (r : Int) : Int := if r = 6 then 2 else if r = 5 then 1 else 0
def holB (c : Cal) (d : Int) : Bool := decide (0 ≤ lastI c.hol d ∧ c.hol[(lastI c.hol d).toNat]?.getD 0 = d)
def typeV (c : Cal) (d : Int) : Int := if holB c d then 2 else weekV (d % 7)
def dayB (d k : Int) : Bool := if k = 0 then decide (d % 2 = 1) else if k = 1 then decide (d / 2 % 2 = 1) else decide (d / 4 % 2 = 1)
def wholeB (k : Int) : Bool := k == 5 || k == 6
def timeB (k : Int) : Bool := k == 3 || k == 4
def mostV (k : Int) : Int := if k = 6 then 10000 else 1000000
def artB (a : Art) : Bool :=
  amB a.kind 1 6 && (amB a.frm 0 1439 && (amB a.till (a.frm + 1) 1440 && (amB a.days 1 7 && ((!wholeB a.kind || (a.frm == 0 && (a.till == 1440 && a.days == 7))) && (amB a.price 0 (mostV a.kind) &&
    (if timeB a.kind then amB a.unit 1 1440 && amB a.free 0 1440 else a.unit == 0 && a.free == 0))))))
def appB (a : Art) (c : Cal) (m : Int) : Bool := artB a && (calB c && (amB m 0 52560000 && (decide (a.frm ≤ locM c m) && (decide (locM c m < a.till) && dayB a.days (typeV c (locD c m))))))
/-- Slices of a session: increasing minutes, energies in bounds. -/
def slB (fin : Int) : Int → List Slc → Bool
  | _, [] => true
  | b, x :: r => decide (b < x.mn) && (decide (x.mn < fin) && (decide (0 ≤ x.en) && (decide (x.en ≤ 10000) && slB fin x.mn r)))
def sesB (s : Ses) : Bool := decide (0 ≤ s.frm) && (decide (s.frm < s.till) && (decide (s.till - s.frm ≤ 2880) && (decide (s.till ≤ 52560000) && (decide (s.frm ≤ s.fin) && (decide (s.fin ≤ s.till) && (decide (s.sl.length ≤ 48) && slB s.fin (s.frm - 1) s.sl))))))
/-- In how many minutes of a stretch an article applies. -/
def cntN (a : Art) (c : Cal) (frm : Int) : Nat → Nat
  | 0 => 0
  | n + 1 => cntN a c frm n + (if appB a c (frm + n) then 1 else 0)
def enS (a : Art) (c : Cal) : List Slc → Int
  | [] => 0
  | x :: r => (if appB a c x.mn then x.en else 0) + enS a c r
def stretchO (a : Art) (c : Cal) (f t : Int) : Option Int :=
  if startE a.price (max 0 (cntN a c f (t - f).toNat - a.free)) a.unit = 0 then some (startV a.price (max 0 (cntN a c f (t - f).toNat - a.free)) a.unit) else none
def lineO (a : Art) (c : Cal) (s : Ses) : Option Int :=
  if a.kind = 1 then some (if appB a c s.frm then a.price else 0)
  else if a.kind = 2 then (if timesE a.price (enS a c s.sl) 1000 = 0 then some (timesV a.price (enS a c s.sl) 1000) else none)
  else if a.kind = 3 then stretchO a c s.frm s.till
  else if a.kind = 4 then stretchO a c s.fin s.till
  else some 0
structure BS where
  lines : List (Int × Int)
  net : Int
  rate : Int
  most : Int
def stepB (c : Cal) (s : Ses) (i : Nat) (a : Art) (b : BS) : Option BS :=
  if a.kind = 5 then some { b with most := if b.most < 0 ∨ a.price < b.most then a.price else b.most }
  else if a.kind = 6 then some { b with rate := a.price }
  else (lineO a c s).map (fun n => { b with lines := b.lines ++ [((i : Int), n)], net := b.net + n })
def runB (c : Cal) (s : Ses) : Nat → List Art → BS → Option BS
  | _, [], b => some b
  | i, a :: r, b => (stepB c s i a b).bind (runB c s (i + 1) r)
def netV (b : BS) : Int := if 0 ≤ b.most then min b.net b.most else b.net
structure BV where
  lines : List (Int × Int)
  net : Int
  tax : Int
  total : Int
def endB (b : BS) : Option BV :=
  if taxE (netV b) b.rate = 0 ∧ netV b + taxV (netV b) b.rate ≤ 1000000000 then some ⟨b.lines, netV b, taxV (netV b) b.rate, netV b + taxV (netV b) b.rate⟩ else none
def sumO (arts : List Art) (c : Cal) (s : Ses) : Option BV := (runB c s 0 arts ⟨[], 0, 0, -1⟩).bind endB
def taxN (l : List Art) : Nat := (l.filter (fun a => a.kind == 6)).length
/-- The articles of a tariff that is valid. -/
def artsB (l : List Art) : Bool := decide (l.length ≤ 12) && (l.all artB && decide (taxN l ≤ 1))
end Go.Proofs.YtoekpdnpncgeeaaGreat
/-
Package days: keys of lists, lists whose keys increase, the last key that is not greater than a number.
-/
namespace Go.Proofs.YtoekpdnpncgeeaaGreat
open Go.RowKit
set_option linter.unusedVariables false
set_option linter.unusedSimpArgs false
theorem rdChng_at {w : World} {A : Option Addr} {xs : List Chng} (h : Rd 2 encChng w A xs) {k : Nat} (hk : k < xs.length) : ∃ b off x, A = some ⟨b, off, none⟩ ∧ b < w.heap.size ∧ xs[k]? = some x ∧ w.cell? ⟨b, off + k * 2, none⟩ = some (.int .i64 x.pos) ∧ w.cell? ⟨b, off + k * 2 + 1, none⟩ = some (.int .i64 x.off) := by
  obtain ⟨b, off, x, hA, hb, hx, hc⟩ := h.at_ hk
  exact ⟨b, off, x, hA, hb, hx, hc 0 _ rfl, hc 1 _ rfl⟩
theorem rdI_at {w : World} {A : Option Addr} {xs : List Int} (h : Rd 1 encI w A xs) {k : Nat} (hk : k < xs.length) : ∃ b off x, A = some ⟨b, off, none⟩ ∧ b < w.heap.size ∧ xs[k]? = some x ∧ w.cell? ⟨b, off + k, none⟩ = some (.int .i64 x) := by
  obtain ⟨b, off, x, hA, hb, hx, hc⟩ := h.at_ hk
  exact ⟨b, off, x, hA, hb, hx, by have := hc 0 _ rfl; simpa using this⟩
theorem drop_at {α : Type} {xs : List α} {k : Nat} {x : α} (h : xs[k]? = some x) : xs.drop k = x :: xs.drop (k + 1) := by
  obtain ⟨hk, e⟩ := List.getElem?_eq_some_iff.1 h
  rw [List.drop_eq_getElem_cons hk, e]
theorem map_at {α β : Type} {f : α → β} {xs : List α} {k : Nat} {x : α} (h : xs[k]? = some x) : (xs.map f)[k]? = some (f x) := by
  rw [List.getElem?_map, h]; rfl
set_option maxRecDepth 100000 in
theorem dKeys1_any (p o : Int) (w : World) : Calls Tryz.prog 70 #[.agg #[.int .i64 p, .int .i64 o]] w fun e w' => e = .returned (.int .i64 p) ∧ Below w.heap.size w w' := by
  have hb := Lib.hid ((Below.refl _ w).alloc (Nat.le_refl _) (.cells #[.int .i64 p, .int .i64 o] 65))
  go_enter Tryz.func70, Tryz.ntmps70
  go_wp2_with fail
  go_ret
  exact ⟨rfl, hb.out⟩
theorem dKeys2_any (p : Int) (w : World) : Calls Tryz.prog 71 #[.int .i64 p] w fun e w' => e = .returned (.int .i64 p) ∧ Below w.heap.size w w' := by
  go_enter Tryz.func71, Tryz.ntmps71
  go_wp2_with fail
  go_ret
  exact ⟨rfl, Below.refl _ _⟩
theorem dKeys_any (w : World) : Calls Tryz.prog 38 #[] w fun e w' => e = .returned (.tuple #[.func (.func 70) #[] #[], .func (.func 71) #[] #[]]) ∧ w' = w := by
  go_enter Tryz.func38, Tryz.ntmps38
  go_wp2_with fail
  go_ret2
  exact ⟨rfl, rfl⟩
theorem dInside_any (n a b : Int) (w : World) : Calls Tryz.prog 37 #[.int .i64 n, .int .i64 a, .int .i64 b] w fun e w' => e = .returned (.bool (amB n a b)) ∧ w' = w := by
  by_cases h1 : a ≤ n
  · by_cases h2 : n ≤ b
    · rw [amB_true h1 h2]
      go_enter Tryz.func37, Tryz.ntmps37
      go_wp2
      go_ret
      exact ⟨rfl, rfl⟩
    · rw [amB_false (fun h => h2 h.2)]
      go_enter Tryz.func37, Tryz.ntmps37
      go_wp2
      go_ret
      exact ⟨rfl, rfl⟩
  · rw [amB_false (fun h => h1 h.1)]
    go_enter Tryz.func37, Tryz.ntmps37
    go_wp2
    go_ret
    exact ⟨rfl, rfl⟩
set_option maxRecDepth 100000 in
set_option maxHeartbeats 4000000 in
theorem dListC_any (A : Option Addr) (n cA : Nat) (xs : List Chng) (most : Int) (w : World) (hx : Rd 2 encChng w A xs) (hn : xs.length = n) (hn6 : n ≤ 9223372036854775807) : Calls Tryz.prog 39 #[.slice A n cA, .int .i64 most, .func (.func 70) #[] #[]] w fun e w' => e = .returned (.bool (incB most (-1) (xs.map (·.pos)))) ∧ Below w.heap.size w w' := by
  have HX0 := Lib.hid hx
  have HN := Lib.hid hn
  have HS0 : Hid (incB most (-1) (xs.map (·.pos)) = incB most (-1) (((xs.map (·.pos))).drop 0)) := Lib.hid rfl
  have HB0 : Hid (Below w.heap.size w w) := Lib.hid (Below.refl _ _)
  obtain ⟨R, hR⟩ : ∃ R, R = incB most (-1) (xs.map (·.pos)) := ⟨_, rfl⟩
  rw [← hR] at HS0 ⊢
  clear hR
  clear hx hn
  go_enter Tryz.func39, Tryz.ntmps39
  go_wp2_with fail
  go_loopg [7, 13] n (fun g1 v7 v13 wr => ∃ (i : Nat) (z : Int), v7 = .int .i64 z ∧ v13 = .int .i64 i ∧ i ≤ n ∧ n - i ≤ g1 ∧ Hid (R = incB most z (((xs.map (·.pos))).drop i)) ∧ Hid (Below w.heap.size w wr))
  case atStart => exact ⟨0, -1, rfl, by go_num, by omega, by omega, HS0, HB0⟩
  case round =>
    clear HS0 HB0
    obtain ⟨i, z, rfl, rfl, hi, hg1, HS, HB⟩ := hrel
    by_cases hlt0 : i < n
    · have hltz : (i : Int) < (n : Int) := by omega
      have hlt : i < xs.length := by rw [HN.out]; exact hlt0
      have HX := Lib.hid (HX0.out.keep HB.out)
      obtain ⟨b, off, x, hA, hbl, hgx, hc0, hc1⟩ := rdChng_at HX.out hlt
      have HSS : Hid (R = (decide (z < x.pos) && (decide (x.pos ≤ most) && incB most x.pos (((xs.map (·.pos))).drop (i + 1))))) := Lib.hid (by
        rw [HS.out, drop_at (map_at hgx), incB, Bool.and_assoc])
      clear hgx HX HS
      subst hA
      go_wp2_with fail
      refine (dKeys1_any x.pos x.off _).mono ?_
      rintro e w1 ⟨rfl, hb1⟩
      have HB1 := Lib.hid ((HB.out.trans (((Below.refl _ wr).alloc (Nat.le_refl _) _).mono HB.out.size)).trans (hb1.mono (by have := HB.out.size; simp; omega)))
      have q0 := (hb1.cell (p := ⟨wr.heap.size, 0, none⟩) (by simp)).trans (show (wr.alloc (.cells #[.int .i64 x.pos, .int .i64 x.off] 65)).cell? ⟨wr.heap.size, 0, none⟩ = some (.int .i64 x.pos) by go_simp)
      have q1 := (hb1.cell (p := ⟨wr.heap.size, 1, none⟩) (by simp)).trans (show (wr.alloc (.cells #[.int .i64 x.pos, .int .i64 x.off] 65)).cell? ⟨wr.heap.size, 1, none⟩ = some (.int .i64 x.off) by go_simp)
      have hl1 : wr.heap.size < w1.heap.size := Nat.lt_of_lt_of_le (by simp) hb1.size
      clear hb1 HB hc0 hc1
      by_cases h1 : z < x.pos
      · have h1' : ¬ x.pos ≤ z := by omega
        by_cases h2 : x.pos ≤ most
        · have h2' : ¬ most < x.pos := by omega
          have HS2 : Hid (R = incB most x.pos (((xs.map (·.pos))).drop (i + 1))) := Lib.hid (by rw [HSS.out, decide_eq_true h1, decide_eq_true h2]; rfl)
          clear HSS
          go_wp2_with fail
          refine (dKeys1_any x.pos x.off _).mono ?_
          rintro e w2 ⟨rfl, hb2⟩
          have HB2 := Lib.hid (HB1.out.trans (hb2.mono HB1.out.size))
          clear hb2 HB1
          go_wp2_with fail
          go_roundg (n - (i + 1))
          case measure => omega
          case rel => exact ⟨i + 1, _, rfl, by go_num, by omega, by omega, HS2, HB2⟩
        · have h2' : most < x.pos := by omega
          have HS2 : Hid (R = false) := Lib.hid (by rw [HSS.out, decide_eq_false h2]; simp)
          clear HSS
          go_wp2_with fail
          go_ret
          exact ⟨ret_bool HS2.out.symm, HB1.out⟩
      · have h1' : x.pos ≤ z := by omega
        have HS2 : Hid (R = false) := Lib.hid (by rw [HSS.out, decide_eq_false h1]; simp)
        clear HSS
        go_wp2_with fail
        go_ret
        exact ⟨ret_bool HS2.out.symm, HB1.out⟩
    · have hltz : ¬ (i : Int) < (n : Int) := by omega
      have HS2 : Hid (R = true) := Lib.hid (by rw [HS.out, List.drop_eq_nil_of_le (by rw [List.length_map]; have := HN.out; omega)]; rfl)
      clear HS
      go_wp2_with fail
      go_ret
      exact ⟨ret_bool HS2.out.symm, HB.out⟩
set_option maxRecDepth 100000 in
set_option maxHeartbeats 4000000 in
theorem dLastC_any (A : Option Addr) (n cA : Nat) (xs : List Chng) (num : Int) (w : World) (hx : Rd 2 encChng w A xs) (hn : xs.length = n) (hn6 : n ≤ 4611686018427387904) : Calls Tryz.prog 129 #[.slice A n cA, .int .i64 num, .func (.func 70) #[] #[]] w fun e w' => e = .returned (.int .i64 (lastI (xs.map (·.pos)) num)) ∧ Below w.heap.size w w' := by
  have HX0 := Lib.hid hx
  have HN := Lib.hid hn
  have HS0 : Hid (lastI (xs.map (·.pos)) num = lastF (xs.map (·.pos)) num n (-1) ((n : Int) - 1)) := Lib.hid (by unfold lastI; rw [List.length_map]; rw [hn])
  have HB0 : Hid (Below w.heap.size w w) := Lib.hid (Below.refl _ _)
  obtain ⟨R, hR⟩ : ∃ R, R = lastI (xs.map (·.pos)) num := ⟨_, rfl⟩
  rw [← hR] at HS0 ⊢
  clear hR
  clear hx hn
  go_enter Tryz.func129, Tryz.ntmps129
  go_wp2_with fail
  go_loopg [7, 8] n (fun g1 v7 v8 wr => ∃ (lo hi : Int) (f : Nat), v7 = .int .i64 lo ∧ v8 = .int .i64 hi ∧ -1 ≤ lo ∧ lo ≤ hi ∧ hi < n ∧ hi - lo ≤ f ∧ f ≤ g1 ∧ Hid (R = lastF (xs.map (·.pos)) num f lo hi) ∧ Hid (Below w.heap.size w wr))
  case atStart => exact ⟨-1, (n : Int) - 1, n, rfl, rfl, by omega, by omega, by omega, by omega, by omega, HS0, HB0⟩
  case round =>
    clear HS0 HB0
    obtain ⟨lo, hi, f, rfl, rfl, hl1, hlh, hhn, hf, hg1, HS, HB⟩ := hrel
    by_cases hlt : lo < hi
    · obtain ⟨f', rfl⟩ : ∃ f', f = f' + 1 := ⟨f - 1, by omega⟩
      obtain ⟨m, hm⟩ : ∃ m : Nat, lo + (hi - lo + 1) / 2 = (m : Int) := ⟨(lo + (hi - lo + 1) / 2).toNat, by omega⟩
      have hm2 : lo < (m : Int) ∧ (m : Int) ≤ hi := by omega
      obtain ⟨hm3, hm4⟩ := hm2
      have hmn : (m : Int) < (n : Int) := by omega
      have hlt2 : m < xs.length := by rw [HN.out]; omega
      have HX := Lib.hid (HX0.out.keep HB.out)
      obtain ⟨b, off, x, hA, hbl, hgx, hc0, hc1⟩ := rdChng_at HX.out hlt2
      have HSS : Hid (R = if x.pos ≤ num then lastF (xs.map (·.pos)) num f' m hi else lastF (xs.map (·.pos)) num f' lo ((m : Int) - 1)) := Lib.hid (by
        rw [HS.out]
        conv => lhs; unfold lastF
        rw [if_pos hlt, hm, Int.toNat_natCast, map_at hgx]
        rfl)
      have hdiv : lo + (hi - lo + 1).tdiv 2 = (m : Int) := by rw [← hm, Int.tdiv_eq_ediv_of_nonneg (by omega)]
      have HM := Lib.hid hm
      clear hgx HX HS hm
      subst hA
      go_wp2_with fail
      refine (dKeys1_any x.pos x.off _).mono ?_
      rintro e w1 ⟨rfl, hb1⟩
      have HB1 := Lib.hid (HB.out.trans (hb1.mono HB.out.size))
      clear hb1 HB hc0 hc1
      by_cases h1 : x.pos ≤ num
      · have HS2 : Hid (R = lastF (xs.map (·.pos)) num f' m hi) := Lib.hid (by rw [HSS.out, if_pos h1])
        clear HSS
        go_wp2_with fail
        go_roundg f'
        case measure => omega
        case rel => exact ⟨m, hi, f', rfl, rfl, by omega, by omega, by omega, by omega, by omega, HS2, HB1⟩
      · have HS2 : Hid (R = lastF (xs.map (·.pos)) num f' lo ((m : Int) - 1)) := Lib.hid (by rw [HSS.out, if_neg h1])
        clear HSS
        go_wp2_with fail
        go_roundg f'
        case measure => omega
        case rel => exact ⟨lo, (m : Int) - 1, f', rfl, rfl, by omega, by omega, by omega, by omega, by omega, HS2, HB1⟩
    · have HS2 : Hid (R = lo) := Lib.hid (by rw [HS.out]; cases f <;> unfold lastF <;> simp [hlt])
      clear HS
      go_wp2_with fail
      go_ret
      exact ⟨ret_int HS2.out.symm, HB.out⟩
set_option maxRecDepth 100000 in
set_option maxHeartbeats 4000000 in
theorem dListI_any (A : Option Addr) (n cA : Nat) (xs : List Int) (most : Int) (w : World) (hx : Rd 1 encI w A xs) (hn : xs.length = n) (hn6 : n ≤ 9223372036854775807) : Calls Tryz.prog 40 #[.slice A n cA, .int .i64 most, .func (.func 71) #[] #[]] w fun e w' => e = .returned (.bool (incB most (-1) xs)) ∧ Below w.heap.size w w' := by
  have HX0 := Lib.hid hx
  have HN := Lib.hid hn
  have HS0 : Hid (incB most (-1) xs = incB most (-1) ((xs).drop 0)) := Lib.hid rfl
  have HB0 : Hid (Below w.heap.size w w) := Lib.hid (Below.refl _ _)
  obtain ⟨R, hR⟩ : ∃ R, R = incB most (-1) xs := ⟨_, rfl⟩
  rw [← hR] at HS0 ⊢
  clear hR
  clear hx hn
  go_enter Tryz.func40, Tryz.ntmps40
  go_wp2_with fail
  go_loopg [7, 13] n (fun g1 v7 v13 wr => ∃ (i : Nat) (z : Int), v7 = .int .i64 z ∧ v13 = .int .i64 i ∧ i ≤ n ∧ n - i ≤ g1 ∧ Hid (R = incB most z ((xs).drop i)) ∧ Hid (Below w.heap.size w wr))
  case atStart => exact ⟨0, -1, rfl, by go_num, by omega, by omega, HS0, HB0⟩
  case round =>
    clear HS0 HB0
    obtain ⟨i, z, rfl, rfl, hi, hg1, HS, HB⟩ := hrel
    by_cases hlt0 : i < n
    · have hltz : (i : Int) < (n : Int) := by omega
      have hlt : i < xs.length := by rw [HN.out]; exact hlt0
      have HX := Lib.hid (HX0.out.keep HB.out)
      obtain ⟨b, off, x, hA, hbl, hgx, hc0⟩ := rdI_at HX.out hlt
      have HSS : Hid (R = (decide (z < x) && (decide (x ≤ most) && incB most x ((xs).drop (i + 1))))) := Lib.hid (by
        rw [HS.out, drop_at hgx, incB, Bool.and_assoc])
      clear hgx HX HS
      subst hA
      go_wp2_with fail
      refine (dKeys2_any x _).mono ?_
      rintro e w1 ⟨rfl, hb1⟩
      have HB1 := Lib.hid (HB.out.trans (hb1.mono HB.out.size))
      clear hb1 HB hc0
      by_cases h1 : z < x
      · have h1' : ¬ x ≤ z := by omega
        by_cases h2 : x ≤ most
        · have h2' : ¬ most < x := by omega
          have HS2 : Hid (R = incB most x ((xs).drop (i + 1))) := Lib.hid (by rw [HSS.out, decide_eq_true h1, decide_eq_true h2]; rfl)
          clear HSS
          go_wp2_with fail
          refine (dKeys2_any x _).mono ?_
          rintro e w2 ⟨rfl, hb2⟩
          have HB2 := Lib.hid (HB1.out.trans (hb2.mono HB1.out.size))
          clear hb2 HB1
          go_wp2_with fail
          go_roundg (n - (i + 1))
          case measure => omega
          case rel => exact ⟨i + 1, _, rfl, by go_num, by omega, by omega, HS2, HB2⟩
        · have h2' : most < x := by omega
          have HS2 : Hid (R = false) := Lib.hid (by rw [HSS.out, decide_eq_false h2]; simp)
          clear HSS
          go_wp2_with fail
          go_ret
          exact ⟨ret_bool HS2.out.symm, HB1.out⟩
      · have h1' : x ≤ z := by omega
        have HS2 : Hid (R = false) := Lib.hid (by rw [HSS.out, decide_eq_false h1]; simp)
        clear HSS
        go_wp2_with fail
        go_ret
        exact ⟨ret_bool HS2.out.symm, HB1.out⟩
    · have hltz : ¬ (i : Int) < (n : Int) := by omega
      have HS2 : Hid (R = true) := Lib.hid (by rw [HS.out, List.drop_eq_nil_of_le (by have := HN.out; omega)]; rfl)
      clear HS
      go_wp2_with fail
      go_ret
      exact ⟨ret_bool HS2.out.symm, HB.out⟩
set_option maxRecDepth 100000 in
set_option maxHeartbeats 4000000 in
theorem dLastI_any (A : Option Addr) (n cA : Nat) (xs : List Int) (num : Int) (w : World) (hx : Rd 1 encI w A xs) (hn : xs.length = n) (hn6 : n ≤ 4611686018427387904) : Calls Tryz.prog 131 #[.slice A n cA, .int .i64 num, .func (.func 71) #[] #[]] w fun e w' => e = .returned (.int .i64 (lastI xs num)) ∧ Below w.heap.size w w' := by
  have HX0 := Lib.hid hx
  have HN := Lib.hid hn
  have HS0 : Hid (lastI xs num = lastF xs num n (-1) ((n : Int) - 1)) := Lib.hid (by unfold lastI; rw [hn])
  have HB0 : Hid (Below w.heap.size w w) := Lib.hid (Below.refl _ _)
  obtain ⟨R, hR⟩ : ∃ R, R = lastI xs num := ⟨_, rfl⟩
  rw [← hR] at HS0 ⊢
  clear hR
  clear hx hn
  go_enter Tryz.func131, Tryz.ntmps131
  go_wp2_with fail
  go_loopg [7, 8] n (fun g1 v7 v8 wr => ∃ (lo hi : Int) (f : Nat), v7 = .int .i64 lo ∧ v8 = .int .i64 hi ∧ -1 ≤ lo ∧ lo ≤ hi ∧ hi < n ∧ hi - lo ≤ f ∧ f ≤ g1 ∧ Hid (R = lastF xs num f lo hi) ∧ Hid (Below w.heap.size w wr))
  case atStart => exact ⟨-1, (n : Int) - 1, n, rfl, rfl, by omega, by omega, by omega, by omega, by omega, HS0, HB0⟩
  case round =>
    clear HS0 HB0
    obtain ⟨lo, hi, f, rfl, rfl, hl1, hlh, hhn, hf, hg1, HS, HB⟩ := hrel
    by_cases hlt : lo < hi
    · obtain ⟨f', rfl⟩ : ∃ f', f = f' + 1 := ⟨f - 1, by omega⟩
      obtain ⟨m, hm⟩ : ∃ m : Nat, lo + (hi - lo + 1) / 2 = (m : Int) := ⟨(lo + (hi - lo + 1) / 2).toNat, by omega⟩
      have hm2 : lo < (m : Int) ∧ (m : Int) ≤ hi := by omega
      obtain ⟨hm3, hm4⟩ := hm2
      have hmn : (m : Int) < (n : Int) := by omega
      have hlt2 : m < xs.length := by rw [HN.out]; omega
      have HX := Lib.hid (HX0.out.keep HB.out)
      obtain ⟨b, off, x, hA, hbl, hgx, hc0⟩ := rdI_at HX.out hlt2
      have HSS : Hid (R = if x ≤ num then lastF xs num f' m hi else lastF xs num f' lo ((m : Int) - 1)) := Lib.hid (by
        rw [HS.out]
        conv => lhs; unfold lastF
        rw [if_pos hlt, hm, Int.toNat_natCast, hgx]
        rfl)
      have hdiv : lo + (hi - lo + 1).tdiv 2 = (m : Int) := by rw [← hm, Int.tdiv_eq_ediv_of_nonneg (by omega)]
      have HM := Lib.hid hm
      clear hgx HX HS hm
      subst hA
      go_wp2_with fail
      refine (dKeys2_any x _).mono ?_
      rintro e w1 ⟨rfl, hb1⟩
      have HB1 := Lib.hid (HB.out.trans (hb1.mono HB.out.size))
      clear hb1 HB hc0
      by_cases h1 : x ≤ num
      · have HS2 : Hid (R = lastF xs num f' m hi) := Lib.hid (by rw [HSS.out, if_pos h1])
        clear HSS
        go_wp2_with fail
        go_roundg f'
        case measure => omega
        case rel => exact ⟨m, hi, f', rfl, rfl, by omega, by omega, by omega, by omega, by omega, HS2, HB1⟩
      · have HS2 : Hid (R = lastF xs num f' lo ((m : Int) - 1)) := Lib.hid (by rw [HSS.out, if_neg h1])
        clear HSS
        go_wp2_with fail
        go_roundg f'
        case measure => omega
        case rel => exact ⟨lo, (m : Int) - 1, f', rfl, rfl, by omega, by omega, by omega, by omega, by omega, HS2, HB1⟩
    · have HS2 : Hid (R = lo) := Lib.hid (by rw [HS.out]; cases f <;> unfold lastF <;> simp [hlt])
      clear HS
      go_wp2_with fail
      go_ret
      exact ⟨ret_int HS2.out.symm, HB.out⟩
end Go.Proofs.YtoekpdnpncgeeaaGreat
