/-
The deferred closures of package money: what they do behind a return and behind a panic; then Times, Started and Tax.
-/
import Derived.Test.YtahpoikbnjhkgaaMoneyA
namespace Go.Proofs.Ytahpoikbnjhkgaa
open Go.RowKit

theorem lt_of_cell {w : World} {b o : Nat} {v : Value} (h : w.cell? ⟨b, o, none⟩ = some v) : b < w.heap.size := by
  rcases Nat.lt_or_ge b w.heap.size with hlt | hge
  · exact hlt
  · simp [World.cell?, Array.getElem?_eq_none hge] at h
theorem mCaught_nil (p : Addr) (w : World) : Calls Try.prog 21 #[.nilIface, .pointer (some p)] w fun e w' => e = .returned (.tuple #[]) ∧ w = w' := by
  go_enter Try.func21, Try.ntmps21
  go_wp2
  refine bodyPost_ret (results_none rfl _ _ _) rfl ?_
  exact ⟨rfl, rfl⟩
theorem mCaught_stop (b : Nat) (x k : Int) (w : World) (hc : w.cell? ⟨b, 0, none⟩ = some (.int .i64 x)) (hf : w.frozen? ⟨b, 0, none⟩ = false) :
    Calls Try.prog 21 #[.iface 45 (.agg #[.int .i64 k]), .pointer (some ⟨b, 0, none⟩)] w fun e w' => e = .returned (.tuple #[]) ∧ (w.setCell ⟨b, 0, none⟩ (.int .i64 k)).alloc (.cells #[.int .i64 k] 45) = w' := by
  have hlt : b < w.heap.size := lt_of_cell hc
  have hne : b ≠ w.heap.size := by omega
  have hta : ∀ W : World, (Instr.typeAssert (.iface 45 (.agg #[.int .i64 k])) 20 45 true).run Try.prog W = .ok (.tuple #[.agg #[.int .i64 k], .bool true]) W := fun _ => by kernel_rfl
  go_enter Try.func21, Try.ntmps21
  go_wp2
  go_end0
  exact ⟨rfl, rfl⟩
theorem mTimes1_idle (p : Addr) (w : World) : CallsD Try.prog 20 #[.pointer (some p)] .returning w fun e u' w' => e = .returned (.tuple #[]) ∧ u' = .returning ∧ w = w' := by
  refine callsD_of_wpS Try.func20 rfl fun c₀ cs hu => ?_
  apply wpS_region
  simp [wpOpsS, go_sem, recoverD, hu, Try.ntmps20]
  refine (mCaught_nil p w).mono ?_
  rintro e w' ⟨rfl, rfl⟩
  cases c₀
  simp_all [bodyPostS, results, Try.results20]
theorem mTimes1_stop (b : Nat) (x k : Int) (w : World) (hc : w.cell? ⟨b, 0, none⟩ = some (.int .i64 x)) (hf : w.frozen? ⟨b, 0, none⟩ = false) :
    CallsD Try.prog 20 #[.pointer (some ⟨b, 0, none⟩)] (.panicking ({ v := .iface 45 (.agg #[.int .i64 k]), recovered := false } :: [])) w fun e u' w' =>
      e = .returned (.tuple #[]) ∧ u' = .panicking ({ v := .iface 45 (.agg #[.int .i64 k]), recovered := true } :: []) ∧ (w.setCell ⟨b, 0, none⟩ (.int .i64 k)).alloc (.cells #[.int .i64 k] 45) = w' := by
  refine callsD_of_wpS Try.func20 rfl fun c₀ cs hu => ?_
  apply wpS_region
  simp [wpOpsS, go_sem, recoverD, hu, Try.ntmps20]
  refine (mCaught_stop b x k w hc hf).mono ?_
  rintro e w' ⟨rfl, rfl⟩
  simp [bodyPostS, results, Try.results20]

theorem mStarted1_idle (p : Addr) (w : World) : CallsD Try.prog 30 #[.pointer (some p)] .returning w fun e u' w' => e = .returned (.tuple #[]) ∧ u' = .returning ∧ w = w' := by
  refine callsD_of_wpS Try.func30 rfl fun c₀ cs hu => ?_
  apply wpS_region
  simp [wpOpsS, go_sem, recoverD, hu, Try.ntmps30]
  refine (mCaught_nil p w).mono ?_
  rintro e w' ⟨rfl, rfl⟩
  cases c₀
  simp_all [bodyPostS, results, Try.results30]
theorem mStarted1_stop (b : Nat) (x k : Int) (w : World) (hc : w.cell? ⟨b, 0, none⟩ = some (.int .i64 x)) (hf : w.frozen? ⟨b, 0, none⟩ = false) :
    CallsD Try.prog 30 #[.pointer (some ⟨b, 0, none⟩)] (.panicking ({ v := .iface 45 (.agg #[.int .i64 k]), recovered := false } :: [])) w fun e u' w' =>
      e = .returned (.tuple #[]) ∧ u' = .panicking ({ v := .iface 45 (.agg #[.int .i64 k]), recovered := true } :: []) ∧ (w.setCell ⟨b, 0, none⟩ (.int .i64 k)).alloc (.cells #[.int .i64 k] 45) = w' := by
  refine callsD_of_wpS Try.func30 rfl fun c₀ cs hu => ?_
  apply wpS_region
  simp [wpOpsS, go_sem, recoverD, hu, Try.ntmps30]
  refine (mCaught_stop b x k w hc hf).mono ?_
  rintro e w' ⟨rfl, rfl⟩
  simp [bodyPostS, results, Try.results30]

theorem mTax1_idle (p : Addr) (w : World) : CallsD Try.prog 31 #[.pointer (some p)] .returning w fun e u' w' => e = .returned (.tuple #[]) ∧ u' = .returning ∧ w = w' := by
  refine callsD_of_wpS Try.func31 rfl fun c₀ cs hu => ?_
  apply wpS_region
  simp [wpOpsS, go_sem, recoverD, hu, Try.ntmps31]
  refine (mCaught_nil p w).mono ?_
  rintro e w' ⟨rfl, rfl⟩
  cases c₀
  simp_all [bodyPostS, results, Try.results31]
theorem mTax1_stop (b : Nat) (x k : Int) (w : World) (hc : w.cell? ⟨b, 0, none⟩ = some (.int .i64 x)) (hf : w.frozen? ⟨b, 0, none⟩ = false) :
    CallsD Try.prog 31 #[.pointer (some ⟨b, 0, none⟩)] (.panicking ({ v := .iface 45 (.agg #[.int .i64 k]), recovered := false } :: [])) w fun e u' w' =>
      e = .returned (.tuple #[]) ∧ u' = .panicking ({ v := .iface 45 (.agg #[.int .i64 k]), recovered := true } :: []) ∧ (w.setCell ⟨b, 0, none⟩ (.int .i64 k)).alloc (.cells #[.int .i64 k] 45) = w' := by
  refine callsD_of_wpS Try.func31 rfl fun c₀ cs hu => ?_
  apply wpS_region
  simp [wpOpsS, go_sem, recoverD, hu, Try.ntmps31]
  refine (mCaught_stop b x k w hc hf).mono ?_
  rintro e w' ⟨rfl, rfl⟩
  simp [bodyPostS, results, Try.results31]

theorem mSplit1_idle (p : Addr) (w : World) : CallsD Try.prog 32 #[.pointer (some p)] .returning w fun e u' w' => e = .returned (.tuple #[]) ∧ u' = .returning ∧ w = w' := by
  refine callsD_of_wpS Try.func32 rfl fun c₀ cs hu => ?_
  apply wpS_region
  simp [wpOpsS, go_sem, recoverD, hu, Try.ntmps32]
  refine (mCaught_nil p w).mono ?_
  rintro e w' ⟨rfl, rfl⟩
  cases c₀
  simp_all [bodyPostS, results, Try.results32]
theorem mSplit1_stop (b : Nat) (x k : Int) (w : World) (hc : w.cell? ⟨b, 0, none⟩ = some (.int .i64 x)) (hf : w.frozen? ⟨b, 0, none⟩ = false) :
    CallsD Try.prog 32 #[.pointer (some ⟨b, 0, none⟩)] (.panicking ({ v := .iface 45 (.agg #[.int .i64 k]), recovered := false } :: [])) w fun e u' w' =>
      e = .returned (.tuple #[]) ∧ u' = .panicking ({ v := .iface 45 (.agg #[.int .i64 k]), recovered := true } :: []) ∧ (w.setCell ⟨b, 0, none⟩ (.int .i64 k)).alloc (.cells #[.int .i64 k] 45) = w' := by
  refine callsD_of_wpS Try.func32 rfl fun c₀ cs hu => ?_
  apply wpS_region
  simp [wpOpsS, go_sem, recoverD, hu, Try.ntmps32]
  refine (mCaught_stop b x k w hc hf).mono ?_
  rintro e w' ⟨rfl, rfl⟩
  simp [bodyPostS, results, Try.results32]

/-- What Times answers: the value and the error. -/
def tOk (p q r : Int) : Bool := inB p 0 1000000000 && inB q 0 1000000000 && inB r 1 1000000000
def fitV (v : Int) : Int := if inB v 0 1000000000 then v else 0
def fitE (v : Int) : Int := if inB v 0 1000000000 then 0 else 3
def halfV (n b : Int) : Int := (2 * n + b) / (2 * b)
def timesV (p q r : Int) : Int := if tOk p q r then fitV (halfV (p * q) r) else 0
def timesE (p q r : Int) : Int := if tOk p q r then fitE (halfV (p * q) r) else 1
def startN (p q r : Int) : Int := p * ((q + r - 1) / r)
def startV (p q r : Int) : Int := if tOk p q r then fitV (startN p q r) else 0
def startE (p q r : Int) : Int := if tOk p q r then fitE (startN p q r) else 1
def xOk (p q : Int) : Bool := inB p 0 1000000000 && inB q 0 100000
def taxV (p q : Int) : Int := if xOk p q then fitV (halfV (p * q) 10000) else 0
def taxE (p q : Int) : Int := if xOk p q then fitE (halfV (p * q) 10000) else 1

theorem mul_bd {a b : Int} (h1 : 0 ≤ a) (h2 : a ≤ 1000000000) (h3 : 0 ≤ b) (h4 : b ≤ 1000000000) : 0 ≤ a * b ∧ a * b ≤ 1000000000000000000 :=
  ⟨Int.mul_nonneg h1 h3, Int.le_trans (Int.mul_le_mul h2 h4 h3 (by omega)) (by decide)⟩
theorem inB_of {n a b : Int} (h : inB n a b = true) : a ≤ n ∧ n ≤ b := by unfold inB at h; simpa using h

/-- The three ends of such a function: a bad argument, a result that fits, one that does not. -/
def Ends2 (v k : Int) (w : World) (e : Ending) (w' : World) : Prop := e = .returned (.tuple #[.int .i64 v, .int .i64 k]) ∧ Below w.heap.size w w'
theorem start_bd {q r : Int} (h1 : 0 ≤ q) (h2 : q ≤ 1000000000) (h3 : 1 ≤ r) : (q + r - 1) / r ≤ 1000000000 := by
  have : (q + r - 1) / r ≤ 1000000000 ↔ (q + r - 1) < (1000000000 + 1) * r := by
    rw [← Int.lt_add_one_iff, Int.ediv_lt_iff_lt_mul (by omega)]
  rw [this]
  have : 1000000000 * 1 ≤ 1000000000 * r := Int.mul_le_mul_of_nonneg_left h3 (by omega)
  omega
set_option maxHeartbeats 400000
theorem mTimes_bad (p q r : Int) (w : World) (h : tOk p q r = false) : Calls Try.prog 11 #[.int .i64 p, .int .i64 q, .int .i64 r] w (Ends2 0 1 w) := by
  have hmf : ∀ (fn : Fn) (first cap : Array Value) (w : World), (Instr.makeFunc fn first cap).run Try.prog w = .ok (.func fn first cap) w := fun _ _ _ _ => rfl
  unfold tOk at h
  cases h1 : inB p 0 1000000000 <;> cases h2 : inB q 0 1000000000 <;> cases h3 : inB r 1 1000000000 <;> simp only [h1, h2, h3, Bool.and_self, Bool.and_true, Bool.and_false, Bool.true_eq_false] at h
  all_goals
    have H1 := Lib.hid h1
    have H2 := Lib.hid h2
    have H3 := Lib.hid h3
    clear h h1 h2 h3
    go_enter_defers Try.func11, Try.ntmps11
    go_wp2_with (first | (go_at_call 23; refine (mIsAmount_any _ _).mono ?_; rintro e w' ⟨rfl, rfl⟩; rw [H1.out]) | (go_at_call 24; refine (mInside_any _ _ _ _).mono ?_; rintro e w' ⟨rfl, rfl⟩; (first | rw [H2.out] | rw [H3.out])) | (go_at_call 22; refine (mNeed_no _ _).mono ?_; rintro e w' ⟨rfl, rfl⟩))
    refine leaves_cons (f := 20) (args := #[.pointer (some ⟨w.heap.size, 0, none⟩)]) (by simp) (by simp [go_sem]) ?_
    refine (mTimes1_stop w.heap.size 0 1 _ ?_ ?_).mono ?_
    · simp [go_sem]
    · simp [go_sem]
    rintro e u' w'' ⟨rfl, rfl, rfl⟩
    simp [Leaves, settle, results, Try.results11, go_sem, Ends2]
    repeat (first | exact Below.refl _ _ | refine Below.alloc ?_ (by simp) _ | refine Below.setCell ?_ (by simp) _)
theorem mTimes_yes (p q r : Int) (w : World) (h : tOk p q r = true) (hv : inB (halfV (p * q) r) 0 1000000000 = true) : Calls Try.prog 11 #[.int .i64 p, .int .i64 q, .int .i64 r] w (Ends2 (halfV (p * q) r) 0 w) := by
  have hmf : ∀ (fn : Fn) (first cap : Array Value) (w : World), (Instr.makeFunc fn first cap).run Try.prog w = .ok (.func fn first cap) w := fun _ _ _ _ => rfl
  obtain ⟨h12, h3⟩ := Bool.and_eq_true_iff.1 h
  obtain ⟨h1, h2⟩ := Bool.and_eq_true_iff.1 h12
  obtain ⟨p1, p2⟩ := inB_of h1
  obtain ⟨q1, q2⟩ := inB_of h2
  obtain ⟨r1, r2⟩ := inB_of h3
  clear h h12
  obtain ⟨m1, m2⟩ := mul_bd p1 p2 q1 q2
  have H1 := Lib.hid h1
  have H2 := Lib.hid h2
  have H3 := Lib.hid h3
  clear h1 h2 h3
  have HV := Lib.hid hv
  clear hv
  go_enter_defers Try.func11, Try.ntmps11
  go_wp2_with (first | (go_at_call 23; refine (mIsAmount_any _ _).mono ?_; rintro e w' ⟨rfl, rfl⟩; rw [H1.out]) | (go_at_call 24; refine (mInside_any _ _ _ _).mono ?_; rintro e w' ⟨rfl, rfl⟩; (first | rw [H2.out] | rw [H3.out])) | (go_at_call 22; refine (mNeed_yes _ _).mono ?_; rintro e w' ⟨rfl, rfl⟩) | (go_at_call 26; refine (mHalf_any _ _ _ (by omega) (by omega) (by omega) (by omega)).mono ?_; rintro e w' ⟨rfl, rfl⟩) | (go_at_call 25; refine (mChecked_yes _ _ HV.out).mono ?_; rintro e w' ⟨rfl, rfl⟩))
  refine leaves_cons (f := 20) (args := #[.pointer (some ⟨w.heap.size, 0, none⟩)]) (by simp) (by simp [go_sem]) ?_
  refine (mTimes1_idle ⟨w.heap.size, 0, none⟩ _).mono ?_
  rintro e u' w'' ⟨rfl, rfl, rfl⟩
  simp [Leaves, settle, results, Try.results11, go_sem, Ends2]
  exact (Below.refl _ _).alloc (Nat.le_refl _) _
theorem mTimes_no (p q r : Int) (w : World) (h : tOk p q r = true) (hv : inB (halfV (p * q) r) 0 1000000000 = false) : Calls Try.prog 11 #[.int .i64 p, .int .i64 q, .int .i64 r] w (Ends2 0 3 w) := by
  have hmf : ∀ (fn : Fn) (first cap : Array Value) (w : World), (Instr.makeFunc fn first cap).run Try.prog w = .ok (.func fn first cap) w := fun _ _ _ _ => rfl
  obtain ⟨h12, h3⟩ := Bool.and_eq_true_iff.1 h
  obtain ⟨h1, h2⟩ := Bool.and_eq_true_iff.1 h12
  obtain ⟨p1, p2⟩ := inB_of h1
  obtain ⟨q1, q2⟩ := inB_of h2
  obtain ⟨r1, r2⟩ := inB_of h3
  clear h h12
  obtain ⟨m1, m2⟩ := mul_bd p1 p2 q1 q2
  have H1 := Lib.hid h1
  have H2 := Lib.hid h2
  have H3 := Lib.hid h3
  clear h1 h2 h3
  have HV := Lib.hid hv
  clear hv
  go_enter_defers Try.func11, Try.ntmps11
  go_wp2_with (first | (go_at_call 23; refine (mIsAmount_any _ _).mono ?_; rintro e w' ⟨rfl, rfl⟩; rw [H1.out]) | (go_at_call 24; refine (mInside_any _ _ _ _).mono ?_; rintro e w' ⟨rfl, rfl⟩; (first | rw [H2.out] | rw [H3.out])) | (go_at_call 22; refine (mNeed_yes _ _).mono ?_; rintro e w' ⟨rfl, rfl⟩) | (go_at_call 26; refine (mHalf_any _ _ _ (by omega) (by omega) (by omega) (by omega)).mono ?_; rintro e w' ⟨rfl, rfl⟩) | (go_at_call 25; refine (mChecked_no _ _ HV.out).mono ?_; rintro e w' ⟨rfl, rfl⟩))
  refine leaves_cons (f := 20) (args := #[.pointer (some ⟨w.heap.size, 0, none⟩)]) (by simp) (by simp [go_sem]) ?_
  refine (mTimes1_stop w.heap.size 0 3 _ ?_ ?_).mono ?_
  · simp [go_sem]
  · simp [go_sem]
  rintro e u' w'' ⟨rfl, rfl, rfl⟩
  simp [Leaves, settle, results, Try.results11, go_sem, Ends2]
  repeat (first | exact Below.refl _ _ | refine Below.alloc ?_ (by simp) _ | refine Below.setCell ?_ (by simp) _)
theorem mStarted_bad (p q r : Int) (w : World) (h : tOk p q r = false) : Calls Try.prog 13 #[.int .i64 p, .int .i64 q, .int .i64 r] w (Ends2 0 1 w) := by
  have hmf : ∀ (fn : Fn) (first cap : Array Value) (w : World), (Instr.makeFunc fn first cap).run Try.prog w = .ok (.func fn first cap) w := fun _ _ _ _ => rfl
  unfold tOk at h
  cases h1 : inB p 0 1000000000 <;> cases h2 : inB q 0 1000000000 <;> cases h3 : inB r 1 1000000000 <;> simp only [h1, h2, h3, Bool.and_self, Bool.and_true, Bool.and_false, Bool.true_eq_false] at h
  all_goals
    have H1 := Lib.hid h1
    have H2 := Lib.hid h2
    have H3 := Lib.hid h3
    clear h h1 h2 h3
    go_enter_defers Try.func13, Try.ntmps13
    go_wp2_with (first | (go_at_call 23; refine (mIsAmount_any _ _).mono ?_; rintro e w' ⟨rfl, rfl⟩; rw [H1.out]) | (go_at_call 24; refine (mInside_any _ _ _ _).mono ?_; rintro e w' ⟨rfl, rfl⟩; (first | rw [H2.out] | rw [H3.out])) | (go_at_call 22; refine (mNeed_no _ _).mono ?_; rintro e w' ⟨rfl, rfl⟩))
    refine leaves_cons (f := 30) (args := #[.pointer (some ⟨w.heap.size, 0, none⟩)]) (by simp) (by simp [go_sem]) ?_
    refine (mStarted1_stop w.heap.size 0 1 _ ?_ ?_).mono ?_
    · simp [go_sem]
    · simp [go_sem]
    rintro e u' w'' ⟨rfl, rfl, rfl⟩
    simp [Leaves, settle, results, Try.results13, go_sem, Ends2]
    repeat (first | exact Below.refl _ _ | refine Below.alloc ?_ (by simp) _ | refine Below.setCell ?_ (by simp) _)
theorem mStarted_yes (p q r : Int) (w : World) (h : tOk p q r = true) (hv : inB (startN p q r) 0 1000000000 = true) : Calls Try.prog 13 #[.int .i64 p, .int .i64 q, .int .i64 r] w (Ends2 (startN p q r) 0 w) := by
  have hmf : ∀ (fn : Fn) (first cap : Array Value) (w : World), (Instr.makeFunc fn first cap).run Try.prog w = .ok (.func fn first cap) w := fun _ _ _ _ => rfl
  obtain ⟨h12, h3⟩ := Bool.and_eq_true_iff.1 h
  obtain ⟨h1, h2⟩ := Bool.and_eq_true_iff.1 h12
  obtain ⟨p1, p2⟩ := inB_of h1
  obtain ⟨q1, q2⟩ := inB_of h2
  obtain ⟨r1, r2⟩ := inB_of h3
  clear h h12
  have d1 : 0 ≤ (q + r - 1) / r := Int.ediv_nonneg (by omega) (by omega)
  have d2 : (q + r - 1) / r ≤ 1000000000 := start_bd q1 q2 r1
  obtain ⟨m1, m2⟩ := mul_bd p1 p2 d1 d2
  have H1 := Lib.hid h1
  have H2 := Lib.hid h2
  have H3 := Lib.hid h3
  clear h1 h2 h3
  have HV := Lib.hid hv
  clear hv
  go_enter_defers Try.func13, Try.ntmps13
  go_wp2_with (first | (go_at_call 23; refine (mIsAmount_any _ _).mono ?_; rintro e w' ⟨rfl, rfl⟩; rw [H1.out]) | (go_at_call 24; refine (mInside_any _ _ _ _).mono ?_; rintro e w' ⟨rfl, rfl⟩; (first | rw [H2.out] | rw [H3.out])) | (go_at_call 22; refine (mNeed_yes _ _).mono ?_; rintro e w' ⟨rfl, rfl⟩) | (go_at_call 25; refine (mChecked_yes _ _ HV.out).mono ?_; rintro e w' ⟨rfl, rfl⟩))
  refine leaves_cons (f := 30) (args := #[.pointer (some ⟨w.heap.size, 0, none⟩)]) (by simp) (by simp [go_sem]) ?_
  refine (mStarted1_idle ⟨w.heap.size, 0, none⟩ _).mono ?_
  rintro e u' w'' ⟨rfl, rfl, rfl⟩
  simp [Leaves, settle, results, Try.results13, go_sem, Ends2]
  exact (Below.refl _ _).alloc (Nat.le_refl _) _
theorem mStarted_no (p q r : Int) (w : World) (h : tOk p q r = true) (hv : inB (startN p q r) 0 1000000000 = false) : Calls Try.prog 13 #[.int .i64 p, .int .i64 q, .int .i64 r] w (Ends2 0 3 w) := by
  have hmf : ∀ (fn : Fn) (first cap : Array Value) (w : World), (Instr.makeFunc fn first cap).run Try.prog w = .ok (.func fn first cap) w := fun _ _ _ _ => rfl
  obtain ⟨h12, h3⟩ := Bool.and_eq_true_iff.1 h
  obtain ⟨h1, h2⟩ := Bool.and_eq_true_iff.1 h12
  obtain ⟨p1, p2⟩ := inB_of h1
  obtain ⟨q1, q2⟩ := inB_of h2
  obtain ⟨r1, r2⟩ := inB_of h3
  clear h h12
  have d1 : 0 ≤ (q + r - 1) / r := Int.ediv_nonneg (by omega) (by omega)
  have d2 : (q + r - 1) / r ≤ 1000000000 := start_bd q1 q2 r1
  obtain ⟨m1, m2⟩ := mul_bd p1 p2 d1 d2
  have H1 := Lib.hid h1
  have H2 := Lib.hid h2
  have H3 := Lib.hid h3
  clear h1 h2 h3
  have HV := Lib.hid hv
  clear hv
  go_enter_defers Try.func13, Try.ntmps13
  go_wp2_with (first | (go_at_call 23; refine (mIsAmount_any _ _).mono ?_; rintro e w' ⟨rfl, rfl⟩; rw [H1.out]) | (go_at_call 24; refine (mInside_any _ _ _ _).mono ?_; rintro e w' ⟨rfl, rfl⟩; (first | rw [H2.out] | rw [H3.out])) | (go_at_call 22; refine (mNeed_yes _ _).mono ?_; rintro e w' ⟨rfl, rfl⟩) | (go_at_call 25; refine (mChecked_no _ _ HV.out).mono ?_; rintro e w' ⟨rfl, rfl⟩))
  refine leaves_cons (f := 30) (args := #[.pointer (some ⟨w.heap.size, 0, none⟩)]) (by simp) (by simp [go_sem]) ?_
  refine (mStarted1_stop w.heap.size 0 3 _ ?_ ?_).mono ?_
  · simp [go_sem]
  · simp [go_sem]
  rintro e u' w'' ⟨rfl, rfl, rfl⟩
  simp [Leaves, settle, results, Try.results13, go_sem, Ends2]
  repeat (first | exact Below.refl _ _ | refine Below.alloc ?_ (by simp) _ | refine Below.setCell ?_ (by simp) _)
theorem mTax_bad (p q : Int) (w : World) (h : xOk p q = false) : Calls Try.prog 15 #[.int .i64 p, .int .i64 q] w (Ends2 0 1 w) := by
  have hmf : ∀ (fn : Fn) (first cap : Array Value) (w : World), (Instr.makeFunc fn first cap).run Try.prog w = .ok (.func fn first cap) w := fun _ _ _ _ => rfl
  unfold xOk at h
  cases h1 : inB p 0 1000000000 <;> cases h2 : inB q 0 100000 <;> simp only [h1, h2, Bool.and_self, Bool.true_eq_false] at h
  all_goals
    have H1 := Lib.hid h1
    have H2 := Lib.hid h2
    clear h h1 h2
    go_enter_defers Try.func15, Try.ntmps15
    go_wp2_with (first | (go_at_call 23; refine (mIsAmount_any _ _).mono ?_; rintro e w' ⟨rfl, rfl⟩; rw [H1.out]) | (go_at_call 24; refine (mInside_any _ _ _ _).mono ?_; rintro e w' ⟨rfl, rfl⟩; rw [H2.out]) | (go_at_call 22; refine (mNeed_no _ _).mono ?_; rintro e w' ⟨rfl, rfl⟩))
    refine leaves_cons (f := 31) (args := #[.pointer (some ⟨w.heap.size, 0, none⟩)]) (by simp) (by simp [go_sem]) ?_
    refine (mTax1_stop w.heap.size 0 1 _ ?_ ?_).mono ?_
    · simp [go_sem]
    · simp [go_sem]
    rintro e u' w'' ⟨rfl, rfl, rfl⟩
    simp [Leaves, settle, results, Try.results15, go_sem, Ends2]
    repeat (first | exact Below.refl _ _ | refine Below.alloc ?_ (by simp) _ | refine Below.setCell ?_ (by simp) _)
theorem mTax_yes (p q : Int) (w : World) (h : xOk p q = true) (hv : inB (halfV (p * q) 10000) 0 1000000000 = true) : Calls Try.prog 15 #[.int .i64 p, .int .i64 q] w (Ends2 (halfV (p * q) 10000) 0 w) := by
  have hmf : ∀ (fn : Fn) (first cap : Array Value) (w : World), (Instr.makeFunc fn first cap).run Try.prog w = .ok (.func fn first cap) w := fun _ _ _ _ => rfl
  obtain ⟨h1, h2⟩ := Bool.and_eq_true_iff.1 h
  obtain ⟨p1, p2⟩ := inB_of h1
  obtain ⟨q1, q2⟩ := inB_of h2
  obtain ⟨m1, m2⟩ := mul_bd p1 p2 q1 (by omega)
  clear h
  have H1 := Lib.hid h1
  have H2 := Lib.hid h2
  clear h1 h2
  have HV := Lib.hid hv
  clear hv
  go_enter_defers Try.func15, Try.ntmps15
  go_wp2_with (first | (go_at_call 23; refine (mIsAmount_any _ _).mono ?_; rintro e w' ⟨rfl, rfl⟩; rw [H1.out]) | (go_at_call 24; refine (mInside_any _ _ _ _).mono ?_; rintro e w' ⟨rfl, rfl⟩; rw [H2.out]) | (go_at_call 22; refine (mNeed_yes _ _).mono ?_; rintro e w' ⟨rfl, rfl⟩) | (go_at_call 26; refine (mHalf_any _ _ _ (by omega) (by omega) (by omega) (by omega)).mono ?_; rintro e w' ⟨rfl, rfl⟩) | (go_at_call 25; refine (mChecked_yes _ _ HV.out).mono ?_; rintro e w' ⟨rfl, rfl⟩))
  refine leaves_cons (f := 31) (args := #[.pointer (some ⟨w.heap.size, 0, none⟩)]) (by simp) (by simp [go_sem]) ?_
  refine (mTax1_idle ⟨w.heap.size, 0, none⟩ _).mono ?_
  rintro e u' w'' ⟨rfl, rfl, rfl⟩
  simp [Leaves, settle, results, Try.results15, go_sem, Ends2]
  exact (Below.refl _ _).alloc (Nat.le_refl _) _
theorem mTax_no (p q : Int) (w : World) (h : xOk p q = true) (hv : inB (halfV (p * q) 10000) 0 1000000000 = false) : Calls Try.prog 15 #[.int .i64 p, .int .i64 q] w (Ends2 0 3 w) := by
  have hmf : ∀ (fn : Fn) (first cap : Array Value) (w : World), (Instr.makeFunc fn first cap).run Try.prog w = .ok (.func fn first cap) w := fun _ _ _ _ => rfl
  obtain ⟨h1, h2⟩ := Bool.and_eq_true_iff.1 h
  obtain ⟨p1, p2⟩ := inB_of h1
  obtain ⟨q1, q2⟩ := inB_of h2
  obtain ⟨m1, m2⟩ := mul_bd p1 p2 q1 (by omega)
  clear h
  have H1 := Lib.hid h1
  have H2 := Lib.hid h2
  clear h1 h2
  have HV := Lib.hid hv
  clear hv
  go_enter_defers Try.func15, Try.ntmps15
  go_wp2_with (first | (go_at_call 23; refine (mIsAmount_any _ _).mono ?_; rintro e w' ⟨rfl, rfl⟩; rw [H1.out]) | (go_at_call 24; refine (mInside_any _ _ _ _).mono ?_; rintro e w' ⟨rfl, rfl⟩; rw [H2.out]) | (go_at_call 22; refine (mNeed_yes _ _).mono ?_; rintro e w' ⟨rfl, rfl⟩) | (go_at_call 26; refine (mHalf_any _ _ _ (by omega) (by omega) (by omega) (by omega)).mono ?_; rintro e w' ⟨rfl, rfl⟩) | (go_at_call 25; refine (mChecked_no _ _ HV.out).mono ?_; rintro e w' ⟨rfl, rfl⟩))
  refine leaves_cons (f := 31) (args := #[.pointer (some ⟨w.heap.size, 0, none⟩)]) (by simp) (by simp [go_sem]) ?_
  refine (mTax1_stop w.heap.size 0 3 _ ?_ ?_).mono ?_
  · simp [go_sem]
  · simp [go_sem]
  rintro e u' w'' ⟨rfl, rfl, rfl⟩
  simp [Leaves, settle, results, Try.results15, go_sem, Ends2]
  repeat (first | exact Below.refl _ _ | refine Below.alloc ?_ (by simp) _ | refine Below.setCell ?_ (by simp) _)
end Go.Proofs.Ytahpoikbnjhkgaa
