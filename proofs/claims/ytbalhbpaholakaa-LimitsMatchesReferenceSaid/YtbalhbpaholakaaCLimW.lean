/-
LimitsMatchesReference, walked.
-/
import Derived.Test.YtbalhbpaholakaaCLimV
import Derived.Test.YtbalhbpaholakaaCLimP
import Derived.Test.YtbalhbpaholakaaCLimS0
namespace Go.Proofs.Ytbalhbpaholakaa
open Go.RowKit
set_option linter.unusedVariables false
set_option linter.unusedSimpArgs false
theorem eq_viol (a b c : Int) (W : World) : (Op.equalIn 10000 39 (.agg #[.int .i64 a, .int .i64 b, .int .i64 c]) (.agg #[.int .i64 a, .int .i64 b, .int .i64 c])).run Try.prog W = .ok true W := by
  go_simp
theorem rowsO_mem {s : GSite} {r : GRow} (h : r ∈ rowsO s) : r.mem.length ≤ 1000000 := by
  cases hok : okSB keyL s
  · rw [rowsO_no hok] at h; cases h
  · rw [rowsO_yes hok] at h
    obtain ⟨t, _, _, rfl⟩ := rowsL_mem.1 h
    have h1 := memL_len s t
    have h2 := (okSB_iff.1 hok).n5
    show (memL s t).length ≤ _
    omega
theorem rowsO_len (s : GSite) : (rowsO s).length ≤ 1000000 := by
  cases hok : okSB keyL s
  · rw [rowsO_no hok]; simp
  · rw [rowsO_yes hok]
    have h1 := rowsL_len s (s.cons.length * 3)
    have h2 := (okSB_iff.1 hok).n2
    omega
set_option maxRecDepth 100000 in
set_option maxHeartbeats 8000000 in
theorem walk_LimitsMatchesReference (a1 : Option Addr) (n1 c1 : Nat) (a2 : Option Addr) (n2 c2 : Nat) (a3 : Option Addr) (n3 c3 : Nat) (a4 : Option Addr) (n4 c4 : Nat) (a5 : Option Addr) (n5 c5 : Nat) (s : GSite) {w : World} (HS : Hid (RdSite w a1 a2 a3 a4 a5 n1 n2 n3 n4 n5 s)) (_ : WfSite s) (co : Int) (_ : (Lit.int .i64 co).wf = true) (aA : Option Addr) (cA nA : Nat) (xs : List Int) (hX : Rd 1 encI w aA xs) (HNA : Hid (xs.length = nA)) (hnA : nA ≤ 9223372036854775807) (_ : ∀ x, x ∈ xs → wfI64 x) :
    Calls Try.prog 3 #[.agg #[.slice a1 n1 c1, .slice a2 n2 c2, .slice a3 n3 c3, .slice a4 n4 c4, .slice a5 n5 c5], .int .i64 co, .slice aA nA cA] w fun e w' => e = .returned (.bool true) ∧ Below w.heap.size w w' := by
  have HX := Lib.hid hX
  have HM0 := Lib.hid (LwM.box (c1 := c1) (c2 := c2) (c3 := c3) (c4 := c4) (c5 := c5) HS.out)
  clear hX
  go_enter Try.func3, Try.ntmps3
  go_wp2_with fail
  refine (lhHead_any _).mono ?_
  rintro e w1 ⟨rfl, hb⟩
  have HM := Lib.hid (HM0.out.keep hb)
  generalize hXX : w.heap.size = X at HM ⊢
  have hlX : X < w1.heap.size := World.block_lt_of_cell? w1 _ HM.out.k0
  have HSZ := Lib.hid hXX
  clear hb HM0 hXX
  obtain ⟨k0, k1, k2, k3, k4⟩ : w1.cell? ⟨X, 0, none⟩ = some (.slice a1 n1 c1) ∧ w1.cell? ⟨X, 1, none⟩ = some (.slice a2 n2 c2) ∧ w1.cell? ⟨X, 2, none⟩ = some (.slice a3 n3 c3) ∧ w1.cell? ⟨X, 3, none⟩ = some (.slice a4 n4 c4) ∧ w1.cell? ⟨X, 4, none⟩ = some (.slice a5 n5 c5) := ⟨HM.out.k0, HM.out.k1, HM.out.k2, HM.out.k3, HM.out.k4⟩
  go_wp2_with fail
  refine (r4Few_any a1 a2 a3 a4 a5 n1 c1 n2 c2 n3 c3 n4 c4 n5 c5 s w1 (Lib.hid HM.out.rs)).mono ?_
  rintro e w2 ⟨rfl, hb⟩
  have HM := Lib.hid (HM.out.keep hb)
  have hlX : X < w2.heap.size := World.block_lt_of_cell? w2 _ HM.out.k0
  clear hb k0 k1 k2 k3 k4
  obtain ⟨k0, k1, k2, k3, k4⟩ : w2.cell? ⟨X, 0, none⟩ = some (.slice a1 n1 c1) ∧ w2.cell? ⟨X, 1, none⟩ = some (.slice a2 n2 c2) ∧ w2.cell? ⟨X, 2, none⟩ = some (.slice a3 n3 c3) ∧ w2.cell? ⟨X, 3, none⟩ = some (.slice a4 n4 c4) ∧ w2.cell? ⟨X, 4, none⟩ = some (.slice a5 n5 c5) := ⟨HM.out.k0, HM.out.k1, HM.out.k2, HM.out.k3, HM.out.k4⟩
  cases hf : fewS s
  · go_wp2_with fail
    go_ret
    exact ⟨rfl, HM.out.bel⟩
  clear hf
  by_cases hl : 100 < nA
  · have hlz : (100 : Int) < (nA : Int) := by omega
    go_wp2_with fail
    go_ret
    exact ⟨rfl, HM.out.bel⟩
  have hlz : ¬ (100 : Int) < (nA : Int) := by omega
  go_wp2_with fail
  refine (limLimit_any a1 a2 a3 a4 a5 n1 c1 n2 c2 n3 c3 n4 c4 n5 c5 s co w2 (Lib.hid HM.out.rs)).mono ?_
  rintro e w3 ⟨rfl, hb⟩
  obtain ⟨lo, hlo⟩ : ∃ x, x = limO s co := ⟨_, rfl⟩
  obtain ⟨le, hle⟩ : ∃ x, x = errO (okCo s co) := ⟨_, rfl⟩
  rw [← hlo, ← hle]
  have HLO := Lib.hid (And.intro hlo hle)
  clear hlo hle
  have HM := Lib.hid (HM.out.keep hb)
  have hlX : X < w3.heap.size := World.block_lt_of_cell? w3 _ HM.out.k0
  clear hb k0 k1 k2 k3 k4
  obtain ⟨k0, k1, k2, k3, k4⟩ : w3.cell? ⟨X, 0, none⟩ = some (.slice a1 n1 c1) ∧ w3.cell? ⟨X, 1, none⟩ = some (.slice a2 n2 c2) ∧ w3.cell? ⟨X, 2, none⟩ = some (.slice a3 n3 c3) ∧ w3.cell? ⟨X, 3, none⟩ = some (.slice a4 n4 c4) ∧ w3.cell? ⟨X, 4, none⟩ = some (.slice a5 n5 c5) := ⟨HM.out.k0, HM.out.k1, HM.out.k2, HM.out.k3, HM.out.k4⟩
  go_wp2_with fail
  refine (r9Limit_any a1 a2 a3 a4 a5 n1 c1 n2 c2 n3 c3 n4 c4 n5 c5 s co w3 (Lib.hid HM.out.rs)).mono ?_
  rintro e w4 ⟨rfl, hb⟩
  rw [← HLO.out.1, ← HLO.out.2]
  have HM := Lib.hid (HM.out.keep hb)
  have hlX : X < w4.heap.size := World.block_lt_of_cell? w4 _ HM.out.k0
  clear hb k0 k1 k2 k3 k4
  obtain ⟨k0, k1, k2, k3, k4⟩ : w4.cell? ⟨X, 0, none⟩ = some (.slice a1 n1 c1) ∧ w4.cell? ⟨X, 1, none⟩ = some (.slice a2 n2 c2) ∧ w4.cell? ⟨X, 2, none⟩ = some (.slice a3 n3 c3) ∧ w4.cell? ⟨X, 3, none⟩ = some (.slice a4 n4 c4) ∧ w4.cell? ⟨X, 4, none⟩ = some (.slice a5 n5 c5) := ⟨HM.out.k0, HM.out.k1, HM.out.k2, HM.out.k3, HM.out.k4⟩
  go_wp2_with fail
  refine (limRows_any a1 a2 a3 a4 a5 n1 c1 n2 c2 n3 c3 n4 c4 n5 c5 s w4 (Lib.hid HM.out.rs)).mono ?_
  rintro e w5 ⟨ar, cr, hr, rfl, hrr, hb⟩
  obtain ⟨rn, hrn⟩ : ∃ x, x = (rowsO s).length := ⟨_, rfl⟩
  obtain ⟨re, hre⟩ : ∃ x, x = errO (okSB keyL s) := ⟨_, rfl⟩
  rw [← hrn, ← hre]
  have HRN := Lib.hid (And.intro hrn hre)
  have HR1 := Lib.hid hrr
  clear hrn hre hrr
  have HM := Lib.hid (HM.out.keep hb)
  have hlX : X < w5.heap.size := World.block_lt_of_cell? w5 _ HM.out.k0
  clear hb k0 k1 k2 k3 k4
  obtain ⟨k0, k1, k2, k3, k4⟩ : w5.cell? ⟨X, 0, none⟩ = some (.slice a1 n1 c1) ∧ w5.cell? ⟨X, 1, none⟩ = some (.slice a2 n2 c2) ∧ w5.cell? ⟨X, 2, none⟩ = some (.slice a3 n3 c3) ∧ w5.cell? ⟨X, 3, none⟩ = some (.slice a4 n4 c4) ∧ w5.cell? ⟨X, 4, none⟩ = some (.slice a5 n5 c5) := ⟨HM.out.k0, HM.out.k1, HM.out.k2, HM.out.k3, HM.out.k4⟩
  go_wp2_with fail
  refine (r9Rows_any a1 a2 a3 a4 a5 n1 c1 n2 c2 n3 c3 n4 c4 n5 c5 s w5 (Lib.hid HM.out.rs)).mono ?_
  rintro e w6 ⟨ar2, cr2, hr2, rfl, hrr, hb⟩
  rw [← HRN.out.1, ← HRN.out.2]
  have HR1 := Lib.hid (HR1.out.keep hb)
  have HR2 := Lib.hid hrr
  clear hrr
  have HM := Lib.hid (HM.out.keep hb)
  have hlX : X < w6.heap.size := World.block_lt_of_cell? w6 _ HM.out.k0
  clear hb k0 k1 k2 k3 k4
  obtain ⟨k0, k1, k2, k3, k4⟩ : w6.cell? ⟨X, 0, none⟩ = some (.slice a1 n1 c1) ∧ w6.cell? ⟨X, 1, none⟩ = some (.slice a2 n2 c2) ∧ w6.cell? ⟨X, 2, none⟩ = some (.slice a3 n3 c3) ∧ w6.cell? ⟨X, 3, none⟩ = some (.slice a4 n4 c4) ∧ w6.cell? ⟨X, 4, none⟩ = some (.slice a5 n5 c5) := ⟨HM.out.k0, HM.out.k1, HM.out.k2, HM.out.k3, HM.out.k4⟩
  go_wp2_with fail
  refine (limCheck_any a1 a2 a3 a4 a5 n1 c1 n2 c2 n3 c3 n4 c4 n5 c5 aA nA cA s xs w6 (Lib.hid HM.out.rs) (Lib.hid (HX.out.keep HM.out.bel)) HNA hnA).mono ?_
  rintro e w7 ⟨rfl, hb⟩
  obtain ⟨v0, v1, v2, hv⟩ := vio_agg s xs
  obtain ⟨q, hq⟩ : ∃ x, x = (vioO s xs).isSome := ⟨_, rfl⟩
  obtain ⟨ve, hve⟩ : ∃ x, x = errO (loadB s xs) := ⟨_, rfl⟩
  rw [hv, ← hq, ← hve]
  have HQ := Lib.hid (And.intro hq hve)
  have HV := Lib.hid hv
  have HR1 := Lib.hid (HR1.out.keep hb)
  have HR2 := Lib.hid (HR2.out.keep hb)
  clear hv hq hve
  have HM := Lib.hid (HM.out.keep hb)
  have hlX : X < w7.heap.size := World.block_lt_of_cell? w7 _ HM.out.k0
  clear hb k0 k1 k2 k3 k4
  obtain ⟨k0, k1, k2, k3, k4⟩ : w7.cell? ⟨X, 0, none⟩ = some (.slice a1 n1 c1) ∧ w7.cell? ⟨X, 1, none⟩ = some (.slice a2 n2 c2) ∧ w7.cell? ⟨X, 2, none⟩ = some (.slice a3 n3 c3) ∧ w7.cell? ⟨X, 3, none⟩ = some (.slice a4 n4 c4) ∧ w7.cell? ⟨X, 4, none⟩ = some (.slice a5 n5 c5) := ⟨HM.out.k0, HM.out.k1, HM.out.k2, HM.out.k3, HM.out.k4⟩
  go_wp2_with fail
  obtain ⟨W7, hW7⟩ : ∃ W7, W7 = w7.alloc (.cells #[.int .i64 v0, .int .i64 v1, .int .i64 v2] 39) := ⟨_, rfl⟩
  have hb : Below w7.heap.size w7 W7 := by rw [hW7]; exact (Below.refl _ w7).alloc (Nat.le_refl _) _
  have HB7 : Hid (VBox W7 w7.heap.size v0 v1 v2) := Lib.hid (by rw [hW7]; exact VBox.new _ _ _ _ _)
  have HM := Lib.hid (HM.out.keep hb)
  have HR1 := Lib.hid (HR1.out.keep hb)
  have HR2 := Lib.hid (HR2.out.keep hb)
  rw [← hW7]
  clear hW7 hb k0 k1 k2 k3 k4
  refine (r9Check_any a1 a2 a3 a4 a5 n1 c1 n2 c2 n3 c3 n4 c4 n5 c5 aA nA cA s xs W7 (Lib.hid HM.out.rs) (Lib.hid (HX.out.keep HM.out.bel)) HNA hnA).mono ?_
  rintro e w8 ⟨rfl, hb⟩
  rw [HV.out, ← HQ.out.1, ← HQ.out.2]
  have HM := Lib.hid (HM.out.keep hb)
  have HR1 := Lib.hid (HR1.out.keep hb)
  have HR2 := Lib.hid (HR2.out.keep hb)
  have HB7 := Lib.hid (HB7.out.keep hb)
  clear hb
  obtain ⟨W8, hW8⟩ : ∃ W8, W8 = w8.alloc (.cells #[.int .i64 v0, .int .i64 v1, .int .i64 v2] 39) := ⟨_, rfl⟩
  have hb : Below w8.heap.size w8 W8 := by rw [hW8]; exact (Below.refl _ w8).alloc (Nat.le_refl _) _
  have HB8 : Hid (VBox W8 w8.heap.size v0 v1 v2) := Lib.hid (by rw [hW8]; exact VBox.new _ _ _ _ _)
  have HM := Lib.hid (HM.out.keep hb)
  have HR1 := Lib.hid (HR1.out.keep hb)
  have HR2 := Lib.hid (HR2.out.keep hb)
  have HB7 := Lib.hid (HB7.out.keep hb)
  have HSM := Lib.hid (r9Same_any ar ar2 rn cr rn cr2 hr hr2 (rowsO s) (rowsO s) W8 HR1 HR2 (Lib.hid HRN.out.1.symm) (Lib.hid HRN.out.1.symm) (by rw [HRN.out.1]; exact rowsO_len s) (Lib.hid (fun r hr => rowsO_mem hr)))
  have q0 : decide (lo = lo) = true := decide_eq_true rfl
  have q1 : (lo == lo) = true := by simp
  have q2 : decide (le = le) = true := decide_eq_true rfl
  have q3 : (le == le) = true := by simp
  have q4 : decide (re = re) = true := decide_eq_true rfl
  have q5 : (re == re) = true := by simp
  have q6 : decide (ve = ve) = true := decide_eq_true rfl
  have q7 : (ve == ve) = true := by simp
  have q8 : (q == q) = true := by simp
  have q9 : decide (q = q) = true := decide_eq_true rfl
  have HW8 := Lib.hid hW8
  clear hb hW8
  go_wp2_with fail
  rw [← HW8.out]
  refine HSM.out.mono ?_
  rintro e w9 ⟨rfl, hb⟩
  simp only [decide_true]
  have x0 := (HB7.out.keep hb).1
  have x1 := (HB7.out.keep hb).2.1
  have x2 := (HB7.out.keep hb).2.2
  have y0 := (HB8.out.keep hb).1
  have y1 := (HB8.out.keep hb).2.1
  have y2 := (HB8.out.keep hb).2.2
  have hq0 := fun W => eq_viol v0 v1 v2 W
  have HM := Lib.hid (HM.out.keep hb)
  clear hb
  go_wp2_with fail
  go_ret
  exact ⟨rfl, HM.out.bel⟩
end Go.Proofs.Ytbalhbpaholakaa
