/-
Several texts in one: BlA, BlB, BlC, BlD.
-/
import Derived.Test.YtoekpdnpncgeeaaGreatGDy
import Derived.Test.YtoekpdnpncgeeaaGreatGLTreeA
/-
bill.Valid, must, and the deferred closure of Bill.
-/
namespace Go.Proofs.YtoekpdnpncgeeaaGreat
open Go.RowKit
set_option linter.unusedVariables false
set_option linter.unusedSimpArgs false
theorem rdSlc_at {w : World} {A : Option Addr} {xs : List Slc} (h : Rd 2 encSlc w A xs) {k : Nat} (hk : k < xs.length) : ∃ b off x, A = some ⟨b, off, none⟩ ∧ b < w.heap.size ∧ xs[k]? = some x ∧ w.cell? ⟨b, off + k * 2, none⟩ = some (.int .i64 x.mn) ∧ w.cell? ⟨b, off + k * 2 + 1, none⟩ = some (.int .i64 x.en) := by
  obtain ⟨b, off, x, hA, hb, hx, hc⟩ := h.at_ hk
  exact ⟨b, off, x, hA, hb, hx, hc 0 _ rfl, hc 1 _ rfl⟩
/-- A session's slices, read. -/
structure RdSes (w : World) (aS : Option Addr) (nS : Nat) (s : Ses) : Prop where
  rs : Rd 2 encSlc w aS s.sl
  ls : s.sl.length = nS
  lm : nS ≤ 9223372036854775807
  wt : s.till ≤ 9223372036854775807
  wf : s.frm ≤ 9223372036854775807
theorem RdSes.keep {w w' : World} {aS : Option Addr} {nS : Nat} {s : Ses} (h : RdSes w aS nS s) (hb : Below w.heap.size w w') : RdSes w' aS nS s :=
  ⟨h.rs.keep hb, h.ls, h.lm, h.wt, h.wf⟩
structure SesM (w W : World) (S : Nat) (aS : Option Addr) (nS cS : Nat) (s : Ses) : Prop where
  bel : Below w.heap.size w W
  k0 : W.cell? ⟨S, 0, none⟩ = some (.int .i64 s.frm)
  k1 : W.cell? ⟨S, 1, none⟩ = some (.int .i64 s.till)
  k2 : W.cell? ⟨S, 2, none⟩ = some (.int .i64 s.fin)
  k3 : W.cell? ⟨S, 3, none⟩ = some (.slice aS nS cS)
  rd : RdSes W aS nS s
theorem SesM.keep {w W W' : World} {S : Nat} {aS : Option Addr} {nS cS : Nat} {s : Ses} (h : SesM w W S aS nS cS s) (hb : Below W.heap.size W W') : SesM w W' S aS nS cS s :=
  ⟨h.bel.trans (hb.mono h.bel.size), (hb.cell (p := ⟨S, 0, none⟩) (World.block_lt_of_cell? _ _ h.k0)).trans h.k0, (hb.cell (p := ⟨S, 1, none⟩) (World.block_lt_of_cell? _ _ h.k1)).trans h.k1, (hb.cell (p := ⟨S, 2, none⟩) (World.block_lt_of_cell? _ _ h.k2)).trans h.k2, (hb.cell (p := ⟨S, 3, none⟩) (World.block_lt_of_cell? _ _ h.k3)).trans h.k3, h.rd.keep hb⟩
theorem SesM.box {w W : World} {aS : Option Addr} {nS cS : Nat} {s : Ses} (hb : Below w.heap.size w W) (h : RdSes W aS nS s) : SesM w (W.alloc (.cells #[.int .i64 s.frm, .int .i64 s.till, .int .i64 s.fin, .slice aS nS cS] 31)) W.heap.size aS nS cS s :=
  have hb1 : Below W.heap.size W (W.alloc (.cells #[.int .i64 s.frm, .int .i64 s.till, .int .i64 s.fin, .slice aS nS cS] 31)) := (Below.refl _ _).alloc (Nat.le_refl _) _
  ⟨hb.trans (hb1.mono hb.size), by go_simp, by go_simp, by go_simp, by go_simp, h.keep hb1⟩
set_option maxRecDepth 100000 in
set_option maxHeartbeats 8000000 in
theorem bValid_any (aS : Option Addr) (nS cS : Nat) (s : Ses) (w : World) (HQ : Hid (RdSes w aS nS s)) : Calls Tryz.prog 9 #[.agg #[.int .i64 s.frm, .int .i64 s.till, .int .i64 s.fin, .slice aS nS cS]] w fun e w' => e = .returned (.bool (sesB s)) ∧ Below w.heap.size w w' := by
  obtain ⟨R, hR⟩ : ∃ R, R = sesB s := ⟨_, rfl⟩
  have HR : Hid (R = (decide (0 ≤ s.frm) && (decide (s.frm < s.till) && (decide (s.till - s.frm ≤ 2880) && (decide (s.till ≤ 52560000) && (decide (s.frm ≤ s.fin) && (decide (s.fin ≤ s.till) && (decide (nS ≤ 48) && slB s.fin (s.frm - 1) s.sl)))))))) := Lib.hid (by rw [hR]; unfold sesB; rw [HQ.out.ls])
  rw [← hR]
  clear hR
  have HLN : Hid (s.sl.length = nS) := Lib.hid HQ.out.ls
  have hm1 : nS ≤ 9223372036854775807 := HQ.out.lm
  have hwt : s.till ≤ 9223372036854775807 := HQ.out.wt
  have hwf : s.frm ≤ 9223372036854775807 := HQ.out.wf
  obtain ⟨W0, hW0⟩ : ∃ W0, W0 = w.alloc (.cells #[.int .i64 s.frm, .int .i64 s.till, .int .i64 s.fin, .slice aS nS cS] 31) := ⟨_, rfl⟩
  obtain ⟨S, hS⟩ : ∃ S, S = w.heap.size := ⟨_, rfl⟩
  have HS : Hid (SesM w W0 S aS nS cS s) := Lib.hid (by rw [hW0, hS]; exact SesM.box (Below.refl _ _) HQ.out)
  have HW0 := Lib.hid hW0
  have HS0 := Lib.hid hS
  clear hW0 hS
  go_enter Tryz.func9, Tryz.ntmps9
  go_upto_region 1 with (fail)
  rw [← HW0.out, ← HS0.out]
  clear HW0 HS0
  obtain ⟨z0, z1, z2, z3⟩ : W0.cell? ⟨S, 0, none⟩ = some (.int .i64 s.frm) ∧ W0.cell? ⟨S, 1, none⟩ = some (.int .i64 s.till) ∧ W0.cell? ⟨S, 2, none⟩ = some (.int .i64 s.fin) ∧ W0.cell? ⟨S, 3, none⟩ = some (.slice aS nS cS) := ⟨HS.out.k0, HS.out.k1, HS.out.k2, HS.out.k3⟩
  have hlS : S < W0.heap.size := World.block_lt_of_cell? W0 _ z0
  by_cases h0 : 0 ≤ s.frm
  case neg =>
    have h0z : s.frm < 0 := by omega
    have HF : Hid (R = false) := Lib.hid (by rw [HR.out, decide_eq_false h0]; simp)
    go_wp2_with fail
    go_ret
    exact ⟨ret_bool HF.out.symm, HS.out.bel⟩
  have HR : Hid (R = (decide (s.frm < s.till) && (decide (s.till - s.frm ≤ 2880) && (decide (s.till ≤ 52560000) && (decide (s.frm ≤ s.fin) && (decide (s.fin ≤ s.till) && (decide (nS ≤ 48) && slB s.fin (s.frm - 1) s.sl))))))) := Lib.hid (by rw [HR.out, decide_eq_true h0]; rfl)
  have h0z : ¬ s.frm < 0 := by omega
  by_cases h1 : s.frm < s.till
  case neg =>
    have h1z : s.till ≤ s.frm := by omega
    have HF : Hid (R = false) := Lib.hid (by rw [HR.out, decide_eq_false h1]; simp)
    go_wp2_with fail
    go_ret
    exact ⟨ret_bool HF.out.symm, HS.out.bel⟩
  have HR : Hid (R = (decide (s.till - s.frm ≤ 2880) && (decide (s.till ≤ 52560000) && (decide (s.frm ≤ s.fin) && (decide (s.fin ≤ s.till) && (decide (nS ≤ 48) && slB s.fin (s.frm - 1) s.sl)))))) := Lib.hid (by rw [HR.out, decide_eq_true h1]; rfl)
  have h1z : ¬ s.till ≤ s.frm := by omega
  by_cases h2 : s.till - s.frm ≤ 2880
  case neg =>
    have h2z : 2880 < s.till - s.frm := by omega
    have HF : Hid (R = false) := Lib.hid (by rw [HR.out, decide_eq_false h2]; simp)
    go_wp2_with fail
    go_ret
    exact ⟨ret_bool HF.out.symm, HS.out.bel⟩
  have HR : Hid (R = (decide (s.till ≤ 52560000) && (decide (s.frm ≤ s.fin) && (decide (s.fin ≤ s.till) && (decide (nS ≤ 48) && slB s.fin (s.frm - 1) s.sl))))) := Lib.hid (by rw [HR.out, decide_eq_true h2]; rfl)
  have h2z : ¬ 2880 < s.till - s.frm := by omega
  by_cases h3 : s.till ≤ 52560000
  case neg =>
    have h3z : 52560000 < s.till := by omega
    have HF : Hid (R = false) := Lib.hid (by rw [HR.out, decide_eq_false h3]; simp)
    go_wp2_with fail
    go_ret
    exact ⟨ret_bool HF.out.symm, HS.out.bel⟩
  have HR : Hid (R = (decide (s.frm ≤ s.fin) && (decide (s.fin ≤ s.till) && (decide (nS ≤ 48) && slB s.fin (s.frm - 1) s.sl)))) := Lib.hid (by rw [HR.out, decide_eq_true h3]; rfl)
  have h3z : ¬ 52560000 < s.till := by omega
  by_cases h4 : s.frm ≤ s.fin
  case neg =>
    have h4z : s.fin < s.frm := by omega
    have HF : Hid (R = false) := Lib.hid (by rw [HR.out, decide_eq_false h4]; simp)
    go_wp2_with fail
    go_ret
    exact ⟨ret_bool HF.out.symm, HS.out.bel⟩
  have HR : Hid (R = (decide (s.fin ≤ s.till) && (decide (nS ≤ 48) && slB s.fin (s.frm - 1) s.sl))) := Lib.hid (by rw [HR.out, decide_eq_true h4]; rfl)
  have h4z : ¬ s.fin < s.frm := by omega
  by_cases h5 : s.fin ≤ s.till
  case neg =>
    have h5z : s.till < s.fin := by omega
    have HF : Hid (R = false) := Lib.hid (by rw [HR.out, decide_eq_false h5]; simp)
    go_wp2_with fail
    go_ret
    exact ⟨ret_bool HF.out.symm, HS.out.bel⟩
  have HR : Hid (R = (decide (nS ≤ 48) && slB s.fin (s.frm - 1) s.sl)) := Lib.hid (by rw [HR.out, decide_eq_true h5]; rfl)
  have h5z : ¬ s.till < s.fin := by omega
  by_cases h6 : nS ≤ 48
  case neg =>
    have h6z : (48 : Int) < (nS : Int) := by omega
    have HF : Hid (R = false) := Lib.hid (by rw [HR.out, decide_eq_false h6]; simp)
    go_wp2_with fail
    go_ret
    exact ⟨ret_bool HF.out.symm, HS.out.bel⟩
  have HR : Hid (R = slB s.fin (s.frm - 1) s.sl) := Lib.hid (by rw [HR.out, decide_eq_true h6]; rfl)
  have h6z : ¬ (48 : Int) < (nS : Int) := by omega
  go_wp2_with fail
  have HS0 : Hid (R = slB s.fin (s.frm - 1) (s.sl.drop 0)) := Lib.hid HR.out
  clear HR z0 z1 z2 z3 hlS
  go_loopg [3, 53] nS (fun g1 v3 v53 wr => ∃ (i : Nat) (b : Int), v3 = .int .i64 b ∧ v53 = .int .i64 i ∧ i ≤ nS ∧ nS - i ≤ g1 ∧ Hid (R = slB s.fin b (s.sl.drop i)) ∧ Hid (SesM w wr S aS nS cS s))
  case atStart => exact ⟨0, s.frm - 1, rfl, by go_num, by omega, by omega, HS0, HS⟩
  case round =>
    clear HS0 HS
    obtain ⟨i, b, rfl, rfl, hi, hg1, HR, HS⟩ := hrel
    obtain ⟨z0, z1, z2, z3⟩ : wr.cell? ⟨S, 0, none⟩ = some (.int .i64 s.frm) ∧ wr.cell? ⟨S, 1, none⟩ = some (.int .i64 s.till) ∧ wr.cell? ⟨S, 2, none⟩ = some (.int .i64 s.fin) ∧ wr.cell? ⟨S, 3, none⟩ = some (.slice aS nS cS) := ⟨HS.out.k0, HS.out.k1, HS.out.k2, HS.out.k3⟩
    have hlS : S < wr.heap.size := World.block_lt_of_cell? wr _ z0
    by_cases hlt : i < nS
    · have hltz : (i : Int) < (nS : Int) := by omega
      obtain ⟨bb, off, x, hA, hbl, hgx, hc0, hc1⟩ := rdSlc_at HS.out.rd.rs (show i < s.sl.length by rw [HLN.out]; exact hlt)
      have HR : Hid (R = (decide (b < x.mn) && (decide (x.mn < s.fin) && (decide (0 ≤ x.en) && (decide (x.en ≤ 10000) && slB s.fin x.mn (s.sl.drop (i + 1))))))) := Lib.hid (by rw [HR.out, drop_at hgx]; rfl)
      clear hgx
      have HS1 := Lib.hid (HS.out.keep ((Below.refl _ wr).alloc (Nat.le_refl _) (.cells #[.int .i64 x.mn, .int .i64 x.en] 37)))
      subst hA
      by_cases g0 : b < x.mn
      case neg =>
        have g0z : x.mn ≤ b := by omega
        have HF : Hid (R = false) := Lib.hid (by rw [HR.out, decide_eq_false g0]; simp)
        go_wp2_with fail
        go_ret
        exact ⟨ret_bool HF.out.symm, HS1.out.bel⟩
      have HR : Hid (R = (decide (x.mn < s.fin) && (decide (0 ≤ x.en) && (decide (x.en ≤ 10000) && slB s.fin x.mn (s.sl.drop (i + 1)))))) := Lib.hid (by rw [HR.out, decide_eq_true g0]; rfl)
      have g0z : ¬ x.mn ≤ b := by omega
      by_cases g1 : x.mn < s.fin
      case neg =>
        have g1z : s.fin ≤ x.mn := by omega
        have HF : Hid (R = false) := Lib.hid (by rw [HR.out, decide_eq_false g1]; simp)
        go_wp2_with fail
        go_ret
        exact ⟨ret_bool HF.out.symm, HS1.out.bel⟩
      have HR : Hid (R = (decide (0 ≤ x.en) && (decide (x.en ≤ 10000) && slB s.fin x.mn (s.sl.drop (i + 1))))) := Lib.hid (by rw [HR.out, decide_eq_true g1]; rfl)
      have g1z : ¬ s.fin ≤ x.mn := by omega
      by_cases g2 : 0 ≤ x.en
      case neg =>
        have g2z : x.en < 0 := by omega
        have HF : Hid (R = false) := Lib.hid (by rw [HR.out, decide_eq_false g2]; simp)
        go_wp2_with fail
        go_ret
        exact ⟨ret_bool HF.out.symm, HS1.out.bel⟩
      have HR : Hid (R = (decide (x.en ≤ 10000) && slB s.fin x.mn (s.sl.drop (i + 1)))) := Lib.hid (by rw [HR.out, decide_eq_true g2]; rfl)
      have g2z : ¬ x.en < 0 := by omega
      by_cases g3 : x.en ≤ 10000
      case neg =>
        have g3z : 10000 < x.en := by omega
        have HF : Hid (R = false) := Lib.hid (by rw [HR.out, decide_eq_false g3]; simp)
        go_wp2_with fail
        go_ret
        exact ⟨ret_bool HF.out.symm, HS1.out.bel⟩
      have HR : Hid (R = slB s.fin x.mn (s.sl.drop (i + 1))) := Lib.hid (by rw [HR.out, decide_eq_true g3]; rfl)
      have g3z : ¬ 10000 < x.en := by omega
      go_wp2_with fail
      go_roundg (nS - (i + 1))
      case measure => omega
      case rel => exact ⟨i + 1, _, rfl, by go_num, by omega, by omega, HR, HS1⟩
    · have hltz : ¬ (i : Int) < (nS : Int) := by omega
      have HF : Hid (R = true) := Lib.hid (by rw [HR.out, List.drop_eq_nil_of_le (by have := HLN.out; omega)]; rfl)
      go_wp2_with fail
      go_ret
      exact ⟨ret_bool HF.out.symm, HS.out.bel⟩
theorem bMust_ok (n : Int) (w : World) : Calls Tryz.prog 42 #[.int .i64 n, .int .i64 0] w fun e w' => e = .returned (.int .i64 n) ∧ w' = w := by
  go_enter Tryz.func42, Tryz.ntmps42
  go_wp2_with fail
  go_ret
  exact ⟨rfl, rfl⟩
theorem bMust_no (n k : Int) (w : World) (hk : k = 1 ∨ k = 3) : Calls Tryz.prog 42 #[.int .i64 n, .int .i64 k] w fun e w' => e = .panicked [{ v := .iface 98 (.agg #[.int .i64 3]), recovered := false }] ∧ w' = w := by
  go_enter Tryz.func42, Tryz.ntmps42
  rcases hk with rfl | rfl
  · go_wp2_with fail
    exact ⟨rfl, rfl, rfl⟩
  · go_wp2_with fail
    exact ⟨rfl, rfl, rfl⟩
theorem bCaught_nil (p : Addr) (w : World) : Calls Tryz.prog 20 #[.nilIface, .pointer (some p)] w fun e w' => e = .returned (.tuple #[]) ∧ w = w' := by
  go_enter Tryz.func20, Tryz.ntmps20
  go_wp2
  refine bodyPost_ret (results_none rfl _ _ _) rfl ?_
  exact ⟨rfl, rfl⟩
theorem bCaught_stop (b : Nat) (x k : Int) (w : World) (hc : w.cell? ⟨b, 0, none⟩ = some (.int .i64 x)) (hf : w.frozen? ⟨b, 0, none⟩ = false) :
    Calls Tryz.prog 20 #[.iface 98 (.agg #[.int .i64 k]), .pointer (some ⟨b, 0, none⟩)] w fun e w' => e = .returned (.tuple #[]) ∧ (w.setCell ⟨b, 0, none⟩ (.int .i64 k)).alloc (.cells #[.int .i64 k] 98) = w' := by
  have hlt : b < w.heap.size := lt_of_cell hc
  have hne : b ≠ w.heap.size := by omega
  have hta : ∀ W : World, (Instr.typeAssert (.iface 98 (.agg #[.int .i64 k])) 20 98 true).run Tryz.prog W = .ok (.tuple #[.agg #[.int .i64 k], .bool true]) W := fun _ => by kernel_rfl
  go_enter Tryz.func20, Tryz.ntmps20
  go_wp2
  go_end0
  exact ⟨rfl, rfl⟩
theorem bBill1_idle (p : Addr) (w : World) : CallsD Tryz.prog 19 #[.pointer (some p)] .returning w fun e u' w' => e = .returned (.tuple #[]) ∧ u' = .returning ∧ w = w' := by
  refine callsD_of_wpS Tryz.func19 rfl fun c₀ cs hu => ?_
  apply wpS_region
  simp [wpOpsS, go_sem, recoverD, hu, Tryz.ntmps19]
  refine (bCaught_nil p w).mono ?_
  rintro e w' ⟨rfl, rfl⟩
  cases c₀
  simp_all [bodyPostS, results, Tryz.results19]
theorem bBill1_stop (b : Nat) (x k : Int) (w : World) (hc : w.cell? ⟨b, 0, none⟩ = some (.int .i64 x)) (hf : w.frozen? ⟨b, 0, none⟩ = false) :
    CallsD Tryz.prog 19 #[.pointer (some ⟨b, 0, none⟩)] (.panicking ({ v := .iface 98 (.agg #[.int .i64 k]), recovered := false } :: [])) w fun e u' w' =>
      e = .returned (.tuple #[]) ∧ u' = .panicking ({ v := .iface 98 (.agg #[.int .i64 k]), recovered := true } :: []) ∧ (w.setCell ⟨b, 0, none⟩ (.int .i64 k)).alloc (.cells #[.int .i64 k] 98) = w' := by
  refine callsD_of_wpS Tryz.func19 rfl fun c₀ cs hu => ?_
  apply wpS_region
  simp [wpOpsS, go_sem, recoverD, hu, Tryz.ntmps19]
  refine (bCaught_stop b x k w hc hf).mono ?_
  rintro e w' ⟨rfl, rfl⟩
  simp [bodyPostS, results, Tryz.results19]
end Go.Proofs.YtoekpdnpncgeeaaGreat
/-
The biller: in which minutes its article applies, and the iterator over these minutes.
-/
namespace Go.Proofs.YtoekpdnpncgeeaaGreat
open Go.Shelf
open Go.RowKit
set_option linter.unusedVariables false
set_option linter.unusedSimpArgs false
theorem grown_noneM {A B : World} (h : Below A.heap.size A B) : A.grownBy B none := ⟨h.os, h.tape, h.output, h.size, fun i hi _ => h.block i hi⟩
theorem below_of_drew' {a b : World} (h : Below a.drew.heap.size a.drew b) : Below a.heap.size a b := ⟨h.os, h.tape, h.output, h.size, h.block⟩
/-- A biller in its block. -/
structure BlrM (W : World) (b : Nat) (a : Art) (aC : Option Addr) (nC cC : Nat) (aH : Option Addr) (nH cH : Nat) (c : Cal) (aS : Option Addr) (nS cS : Nat) (s : Ses) : Prop where
  p0 : W.cell? ⟨b, 0, none⟩ = some (.int .i64 a.kind)
  p1 : W.cell? ⟨b, 1, none⟩ = some (.int .i64 a.days)
  p2 : W.cell? ⟨b, 2, none⟩ = some (.int .i64 a.frm)
  p3 : W.cell? ⟨b, 3, none⟩ = some (.int .i64 a.till)
  p4 : W.cell? ⟨b, 4, none⟩ = some (.int .i64 a.price)
  p5 : W.cell? ⟨b, 5, none⟩ = some (.int .i64 a.unit)
  p6 : W.cell? ⟨b, 6, none⟩ = some (.int .i64 a.free)
  p7 : W.cell? ⟨b, 7, none⟩ = some (.int .i64 c.off)
  p8 : W.cell? ⟨b, 8, none⟩ = some (.slice aC nC cC)
  p9 : W.cell? ⟨b, 9, none⟩ = some (.slice aH nH cH)
  p10 : W.cell? ⟨b, 10, none⟩ = some (.int .i64 s.frm)
  p11 : W.cell? ⟨b, 11, none⟩ = some (.int .i64 s.till)
  p12 : W.cell? ⟨b, 12, none⟩ = some (.int .i64 s.fin)
  p13 : W.cell? ⟨b, 13, none⟩ = some (.slice aS nS cS)
  rc : RdCal W aC nC aH nH c
  rs : RdSes W aS nS s
theorem BlrM.keep {W W' : World} {b : Nat} {a : Art} {aC : Option Addr} {nC cC : Nat} {aH : Option Addr} {nH cH : Nat} {c : Cal} {aS : Option Addr} {nS cS : Nat} {s : Ses} (h : BlrM W b a aC nC cC aH nH cH c aS nS cS s) (hb : Below W.heap.size W W') : BlrM W' b a aC nC cC aH nH cH c aS nS cS s :=
  ⟨(hb.cell (p := ⟨b, 0, none⟩) (World.block_lt_of_cell? _ _ h.p0)).trans h.p0, (hb.cell (p := ⟨b, 1, none⟩) (World.block_lt_of_cell? _ _ h.p1)).trans h.p1, (hb.cell (p := ⟨b, 2, none⟩) (World.block_lt_of_cell? _ _ h.p2)).trans h.p2, (hb.cell (p := ⟨b, 3, none⟩) (World.block_lt_of_cell? _ _ h.p3)).trans h.p3, (hb.cell (p := ⟨b, 4, none⟩) (World.block_lt_of_cell? _ _ h.p4)).trans h.p4, (hb.cell (p := ⟨b, 5, none⟩) (World.block_lt_of_cell? _ _ h.p5)).trans h.p5, (hb.cell (p := ⟨b, 6, none⟩) (World.block_lt_of_cell? _ _ h.p6)).trans h.p6, (hb.cell (p := ⟨b, 7, none⟩) (World.block_lt_of_cell? _ _ h.p7)).trans h.p7, (hb.cell (p := ⟨b, 8, none⟩) (World.block_lt_of_cell? _ _ h.p8)).trans h.p8, (hb.cell (p := ⟨b, 9, none⟩) (World.block_lt_of_cell? _ _ h.p9)).trans h.p9, (hb.cell (p := ⟨b, 10, none⟩) (World.block_lt_of_cell? _ _ h.p10)).trans h.p10, (hb.cell (p := ⟨b, 11, none⟩) (World.block_lt_of_cell? _ _ h.p11)).trans h.p11, (hb.cell (p := ⟨b, 12, none⟩) (World.block_lt_of_cell? _ _ h.p12)).trans h.p12, (hb.cell (p := ⟨b, 13, none⟩) (World.block_lt_of_cell? _ _ h.p13)).trans h.p13, h.rc.keep hb, h.rs.keep hb⟩
theorem BlrM.drewN {W : World} {b : Nat} {a : Art} {aC : Option Addr} {nC cC : Nat} {aH : Option Addr} {nH cH : Nat} {c : Cal} {aS : Option Addr} {nS cS : Nat} {s : Ses} (h : BlrM W b a aC nC cC aH nH cH c aS nS cS s) : BlrM W.drew b a aC nC cC aH nH cH c aS nS cS s := h.keep ⟨rfl, rfl, rfl, Nat.le_refl _, fun _ _ => rfl⟩
/-- The minutes of a stretch in which an article applies, counted from its begin. -/
def fl (a : Art) (c : Cal) (f : Int) : Nat → List Nat
  | 0 => []
  | n + 1 => if appB a c (f + n) then fl a c f n ++ [n] else fl a c f n
theorem fl_succ (a : Art) (c : Cal) (f : Int) (n : Nat) : fl a c f (n + 1) = if appB a c (f + n) then fl a c f n ++ [n] else fl a c f n := rfl
theorem fl_len (a : Art) (c : Cal) (f : Int) : ∀ n, (fl a c f n).length = cntN a c f n
  | 0 => rfl
  | n + 1 => by
    rw [fl_succ, cntN]
    split
    · rw [List.length_append, fl_len a c f n]; rfl
    · rw [fl_len a c f n]; rfl
theorem fl_pre (a : Art) (c : Cal) (f : Int) {k n : Nat} (h : k ≤ n) : fl a c f k <+: fl a c f n := by
  induction n with
  | zero => have : k = 0 := by omega
            subst this; exact List.prefix_rfl
  | succ n ih =>
    by_cases e : k = n + 1
    · subst e; exact List.prefix_rfl
    · refine (ih (by omega)).trans ?_
      rw [fl_succ]
      split
      · exact List.prefix_append _ _
      · exact List.prefix_rfl
theorem cntN_le (a : Art) (c : Cal) (f : Int) : ∀ n, cntN a c f n ≤ n
  | 0 => Nat.le_refl _
  | n + 1 => by
    rw [cntN]
    have := cntN_le a c f n
    split <;> omega
/-- What a round over the minutes may not change. -/
structure KpM (B bf bt bb : Nat) (W W' : World) : Prop where
  bel : Below B W W'
  s1 : W'.heap[bf]? = W.heap[bf]?
  s2 : W'.heap[bt]? = W.heap[bt]?
  s3 : W'.heap[bb]? = W.heap[bb]?
set_option maxRecDepth 100000 in
set_option maxHeartbeats 8000000 in
theorem bApplies_any (b : Nat) (a : Art) (aC : Option Addr) (nC cC : Nat) (aH : Option Addr) (nH cH : Nat) (c : Cal) (aS : Option Addr) (nS cS : Nat) (s : Ses) (m : Int) (w : World) (HB : Hid (BlrM w b a aC nC cC aH nH cH c aS nS cS s)) : Calls Tryz.prog 105 #[.pointer (some ⟨b, 0, none⟩), .int .i64 m] w fun e w' => e = .returned (.bool (appB a c m)) ∧ Below w.heap.size w w' := by
  go_enter Tryz.func105, Tryz.ntmps105
  go_wp2_with fail
  refine region_z (S := fun w' => BlrM w' b a aC nC cC aH nH cH c aS nS cS s) [] (by kernel_rfl) (BlrM.drewN HB.out) (fun hHeld => ?_)
  refine wpAnyZ_take (i := 0) (v := .pointer (some ⟨b, 0, none⟩)) [1, 2, 3, 9, 10] rfl (by kernel_rfl) (by kernel_rfl) (by kernel_rfl) (by kernel_rfl) (fun _ _ _ h => h) (Or.inl ⟨by kernel_rfl, fun w' hSw => ?_⟩) hHeld ?_
  · clear hHeld hSw
    go_simp
  simp only [Act.put, List.getElem_toArray, List.getElem_cons_zero, List.getElem_cons_succ, List.setIfInBounds_toArray, List.set_cons_zero, List.set_cons_succ]
  refine wpAnyZ_take (i := 1) (v := .pointer (some ⟨b, 0, none⟩)) [2, 3, 9, 10] rfl (by kernel_rfl) (by kernel_rfl) (by kernel_rfl) (by kernel_rfl) (fun _ _ _ h => h) (Or.inl ⟨by kernel_rfl, fun w' hSw => ?_⟩) hHeld ?_
  · clear hHeld hSw
    go_simp
  simp only [Act.put, List.getElem_toArray, List.getElem_cons_zero, List.getElem_cons_succ, List.setIfInBounds_toArray, List.set_cons_zero, List.set_cons_succ]
  refine wpAnyZ_take (i := 2) (v := .pointer (some ⟨b, 0, none⟩)) [3, 9, 10] rfl (by kernel_rfl) (by kernel_rfl) (by kernel_rfl) (by kernel_rfl) (fun _ _ _ h => h) (Or.inl ⟨by kernel_rfl, fun w' hSw => ?_⟩) hHeld ?_
  · clear hHeld hSw
    go_simp
  simp only [Act.put, List.getElem_toArray, List.getElem_cons_zero, List.getElem_cons_succ, List.setIfInBounds_toArray, List.set_cons_zero, List.set_cons_succ]
  refine wpAnyZ_take (i := 3) (v := .agg #[.int .i64 a.kind, .int .i64 a.days, .int .i64 a.frm, .int .i64 a.till, .int .i64 a.price, .int .i64 a.unit, .int .i64 a.free]) [9, 10] rfl (by kernel_rfl) (by kernel_rfl) (by kernel_rfl) (by kernel_rfl) (fun _ _ _ h => h) (Or.inl ⟨by kernel_rfl, fun w' hSw => ?_⟩) hHeld ?_
  · obtain ⟨p0, p1, p2, p3, p4, p5, p6, p7, p8, p9, p10, p11, p12, p13, hrc, hrs⟩ := hSw
    clear hrc hrs
    clear hHeld
    go_simp
  simp only [Act.put, List.getElem_toArray, List.getElem_cons_zero, List.getElem_cons_succ, List.setIfInBounds_toArray, List.set_cons_zero, List.set_cons_succ]
  refine wpAnyZ_take (i := 4) (v := .pointer (some ⟨b, 0, none⟩)) [5, 6, 7, 9, 10] rfl (by kernel_rfl) (by kernel_rfl) (by kernel_rfl) (by kernel_rfl) (fun _ _ _ h => h) (Or.inl ⟨by kernel_rfl, fun w' hSw => ?_⟩) hHeld ?_
  · clear hHeld hSw
    go_simp
  simp only [Act.put, List.getElem_toArray, List.getElem_cons_zero, List.getElem_cons_succ, List.setIfInBounds_toArray, List.set_cons_zero, List.set_cons_succ]
  refine wpAnyZ_take (i := 5) (v := .pointer (some ⟨b, 0, none⟩)) [6, 7, 9, 10] rfl (by kernel_rfl) (by kernel_rfl) (by kernel_rfl) (by kernel_rfl) (fun _ _ _ h => h) (Or.inl ⟨by kernel_rfl, fun w' hSw => ?_⟩) hHeld ?_
  · clear hHeld hSw
    go_simp
  simp only [Act.put, List.getElem_toArray, List.getElem_cons_zero, List.getElem_cons_succ, List.setIfInBounds_toArray, List.set_cons_zero, List.set_cons_succ]
  refine wpAnyZ_take (i := 6) (v := .pointer (some ⟨b, 7, none⟩)) [7, 9, 10] rfl (by kernel_rfl) (by kernel_rfl) (by kernel_rfl) (by kernel_rfl) (fun _ _ _ h => h) (Or.inl ⟨by kernel_rfl, fun w' hSw => ?_⟩) hHeld ?_
  · clear hHeld hSw
    go_simp
  simp only [Act.put, List.getElem_toArray, List.getElem_cons_zero, List.getElem_cons_succ, List.setIfInBounds_toArray, List.set_cons_zero, List.set_cons_succ]
  refine wpAnyZ_take (i := 7) (v := .agg #[.int .i64 c.off, .slice aC nC cC, .slice aH nH cH]) [9, 10] rfl (by kernel_rfl) (by kernel_rfl) (by kernel_rfl) (by kernel_rfl) (fun _ _ _ h => h) (Or.inl ⟨by kernel_rfl, fun w' hSw => ?_⟩) hHeld ?_
  · obtain ⟨p0, p1, p2, p3, p4, p5, p6, p7, p8, p9, p10, p11, p12, p13, hrc, hrs⟩ := hSw
    clear hrc hrs
    clear hHeld
    go_simp
  simp only [Act.put, List.getElem_toArray, List.getElem_cons_zero, List.getElem_cons_succ, List.setIfInBounds_toArray, List.set_cons_zero, List.set_cons_succ]
  refine wpAnyZ_take (i := 8) (v := .int .i64 m) [9, 10] rfl (by kernel_rfl) (by kernel_rfl) (by kernel_rfl) (by kernel_rfl) (fun _ _ _ h => h) (Or.inl ⟨by kernel_rfl, fun w' hSw => ?_⟩) hHeld ?_
  · clear hHeld hSw
    go_simp
  simp only [Act.put, List.getElem_toArray, List.getElem_cons_zero, List.getElem_cons_succ, List.setIfInBounds_toArray, List.set_cons_zero, List.set_cons_succ]
  refine wpAnyZ_one (i := 9) (by kernel_rfl) rfl (fun K' hK => ?_)
  go_simp
  refine (tfApplies_any a aC nC cC aH nH cH c m _ (Lib.hid hHeld.rc)).mono ?_
  rintro e w4 ⟨rfl, hb4⟩
  refine hK.out _ _ ?_ (fun hHeld' => ?_)
  · exact hHeld.keep hb4
  have HB4 : Hid (Below w.heap.size w w4) := Lib.hid (below_of_drew' hb4)
  clear hK K' hHeld hb4
  have hHeld := hHeld'
  clear hHeld'
  try simp only [Act.put, List.getElem_toArray, List.getElem_cons_zero, List.getElem_cons_succ, List.setIfInBounds_toArray, List.set_cons_zero, List.set_cons_succ]
  refine wpAnyZ_take (i := 10) (v := .bool (appB a c m)) [] rfl (by kernel_rfl) (by kernel_rfl) (by kernel_rfl) (by kernel_rfl) (fun _ _ _ h => h) (Or.inl ⟨by kernel_rfl, fun w' hSw => ?_⟩) hHeld ?_
  · clear hHeld hSw
    go_simp
  simp only [Act.put, List.getElem_toArray, List.getElem_cons_zero, List.getElem_cons_succ, List.setIfInBounds_toArray, List.set_cons_zero, List.set_cons_succ]
  refine wpAnyZ_done (by kernel_rfl) ?_ _
  go_step
  go_step
  go_wp2_with fail
  go_ret
  exact ⟨rfl, HB4.out⟩
theorem bMinutes_any (b : Nat) (f t : Int) (w : World) : Calls Tryz.prog 128 #[.pointer (some ⟨b, 0, none⟩), .int .i64 f, .int .i64 t] w fun e w' =>
    e = .returned (.func (.func 137) #[] #[.pointer (some ⟨w.heap.size + 1, 0, none⟩), .pointer (some ⟨w.heap.size + 2, 0, none⟩), .pointer (some ⟨w.heap.size, 0, none⟩)]) ∧ w' = ((w.alloc (.cells #[.pointer (some ⟨b, 0, none⟩)] 107)).alloc (.cells #[.int .i64 f] 3)).alloc (.cells #[.int .i64 t] 3) := by
  go_enter Tryz.func128, Tryz.ntmps128
  go_wp2_with fail
  go_ret
  refine ⟨?_, rfl⟩
  simp
set_option maxRecDepth 100000 in
set_option maxHeartbeats 8000000 in
theorem bMinutes1_in (m : Nat) (hm : 1 ≤ m) (l bf bt bb b : Nat) (a : Art) (aC : Option Addr) (nC cC : Nat) (aH : Option Addr) (nH cH : Nat) (c : Cal) (aS : Option Addr) (nS cS : Nat) (s : Ses) (w0 : World) (H0 : Hid (BlrM w0 b a aC nC cC aH nH cH c aS nS cS s)) (f t : Int) (hf : 0 ≤ f) (ht : t ≤ 1000000000) (J Jx : List Nat → World → Prop) (W : World) (hW0 : Below w0.heap.size w0 W)
    (hJ : AbidesFrom W.heap.size J)
    (hY : ∀ (pre : List Nat) (x : Nat) W1, J pre W1 → pre.length < (fl a c f (t - f).toNat).length → YieldAt Fence.wide (m - 1) Tryz.prog l #[.int .i64 (f + x)] W1 fun e W' =>
      (e = .returned (.bool true) ∧ J (pre ++ [x]) W' ∧ KpM w0.heap.size bf bt bb W1 W') ∨ (e = .returned (.bool false) ∧ Jx (pre ++ [x]) W'))
    (hbf : W.cell? ⟨bf, 0, none⟩ = some (.int .i64 f)) (hbt : W.cell? ⟨bt, 0, none⟩ = some (.int .i64 t)) (hbb : W.cell? ⟨bb, 0, none⟩ = some (.pointer (some ⟨b, 0, none⟩))) (h0 : J [] W) :
    CallsIn Fence.wide m Tryz.prog 137 #[.func (.yield l) #[] #[], .pointer (some ⟨bf, 0, none⟩), .pointer (some ⟨bt, 0, none⟩), .pointer (some ⟨bb, 0, none⟩)] W fun e W' => (∃ v, e = .returned v) ∧
      ((∃ ys : List Nat, ys = fl a c f (t - f).toNat ∧ J ys W') ∨ (∃ pre : List Nat, pre <+: fl a c f (t - f).toNat ∧ Jx pre W')) := by
  have HY := Lib.hid hY
  have HJ := Lib.hid hJ
  have HW := Lib.hid hW0
  obtain ⟨n, hn⟩ : ∃ n, n = (t - f).toNat := ⟨_, rfl⟩
  rw [← hn] at HY ⊢
  have hn0 : f + n < t ∨ t ≤ f + n := by omega
  have hnt : ∀ k : Nat, f + k < t ↔ k < n := fun k => by omega
  have HN := Lib.hid hnt
  have hnb : n ≤ 1000000000 := by omega
  clear hY hJ hW0 hn hnt hn0
  refine callsIn_of_wp Tryz.func137 rfl trivial ?_ rfl
  simp only [Tryz.ntmps137, List.size_toArray, List.length_cons, List.length_nil, Nat.reduceAdd, Nat.reduceSub, Array.replicate_succ, Array.replicate_zero, List.push_toArray, List.append_toArray, List.nil_append, List.cons_append]
  have lf : bf < W.heap.size := World.block_lt_of_cell? _ _ hbf
  gi_wp2
  gi_loopw [5] (fun i wr => ∃ (k : Nat) (pre : List Nat), i = .int .i64 (f + k) ∧ k ≤ n ∧ Hid (pre = fl a c f k) ∧ Hid (J pre wr) ∧ Hid (Below w0.heap.size w0 wr) ∧ wr.cell? ⟨bf, 0, none⟩ = some (.int .i64 f) ∧ wr.cell? ⟨bt, 0, none⟩ = some (.int .i64 t) ∧ wr.cell? ⟨bb, 0, none⟩ = some (.pointer (some ⟨b, 0, none⟩))) (fun i _ => (n - (intOf i - f).toNat))
  case atStart => exact ⟨0, [], by simp, by omega, Lib.hid rfl, Lib.hid h0, HW, hbf, hbt, hbb⟩
  case round =>
    clear hbf hbt hbb h0 HW lf
    obtain ⟨k, pre, rfl, hk, Hpre, HJp, HW, hbf, hbt, hbb⟩ := hrel
    have lt : bt < wr.heap.size := World.block_lt_of_cell? _ _ hbt
    have lb : bb < wr.heap.size := World.block_lt_of_cell? _ _ hbb
    by_cases hlt : k < n
    · have hltz : f + (k : Int) < t := (HN.out k).2 hlt
      gi_wp2
      refine ⟨trivial, callsIn_wide.2 ((bApplies_any b a aC nC cC aH nH cH c aS nS cS s (f + (k : Int)) wr (Lib.hid (H0.out.keep HW.out))).mono ?_)⟩
      rintro e w4 ⟨rfl, hb4⟩
      have hJ4 : J pre w4 := HJ.out pre wr _ none HJp.out (grown_noneM hb4) (fun r e => by cases e)
      have HW4 := Lib.hid (below_then HW.out hb4)
      have hbf4 := (hb4.cell (p := ⟨bf, 0, none⟩) (World.block_lt_of_cell? _ _ hbf)).trans hbf
      have hbt4 := (hb4.cell (p := ⟨bt, 0, none⟩) lt).trans hbt
      have hbb4 := (hb4.cell (p := ⟨bb, 0, none⟩) lb).trans hbb
      obtain ⟨z, hz⟩ : ∃ z, z = appB a c (f + (k : Int)) := ⟨_, rfl⟩
      have HZ := Lib.hid hz
      rw [← hz]
      clear hz hbf hbt hbb lt lb hb4 HJp
      cases z
      · have HNX : Hid (pre = fl a c f (k + 1)) := Lib.hid (by rw [Hpre.out, fl_succ, if_neg (by rw [← HZ.out]; simp)])
        have HJ4 := Lib.hid hJ4
        clear hJ4
        gi_wp2
        refine ⟨fun f h => (by cases h), ?_⟩
        gi_wp2
        go_roundw
        case rel => exact ⟨k + 1, _, by simp; omega, by omega, HNX, HJ4, HW4, hbf4, hbt4, hbb4⟩
        case measure => simp [intOf]; omega
      · have hfl : fl a c f (k + 1) = fl a c f k ++ [k] := by rw [fl_succ, if_pos HZ.out.symm]
        have hpl : pre.length < (fl a c f n).length := by
          have h1 := (fl_pre a c f (show k + 1 ≤ n by omega)).length_le
          rw [hfl] at h1
          rw [Hpre.out]
          simp at h1
          omega
        have HNX : Hid (pre ++ [k] = fl a c f (k + 1)) := Lib.hid (by rw [Hpre.out, hfl])
        have HPF : Hid (pre ++ [k] <+: fl a c f n) := Lib.hid (by rw [HNX.out]; exact fl_pre a c f (by omega))
        obtain ⟨fn, tmps, assign, body, hy, hRd⟩ := HY.out pre k w4 hJ4 hpl
        try dsimp only at hy
        clear hfl
        gi_wp2
        refine hRd.mono ?_
        rintro e' W3 (⟨rfl, hJ3, hk3⟩ | ⟨rfl, hJx3⟩)
        · have HJ3 := Lib.hid hJ3
          have HW3 : Hid (Below w0.heap.size w0 W3) := Lib.hid (HW4.out.trans hk3.bel)
          have hbf3 : W3.cell? ⟨bf, 0, none⟩ = some (.int .i64 f) := (World.cell?_of_block (w := w4) (a := ⟨bf, 0, none⟩) hk3.s1).trans hbf4
          have hbt3 : W3.cell? ⟨bt, 0, none⟩ = some (.int .i64 t) := (World.cell?_of_block (w := w4) (a := ⟨bt, 0, none⟩) hk3.s2).trans hbt4
          have hbb3 : W3.cell? ⟨bb, 0, none⟩ = some (.pointer (some ⟨b, 0, none⟩)) := (World.cell?_of_block (w := w4) (a := ⟨bb, 0, none⟩) hk3.s3).trans hbb4
          clear hJ3 hJ4 hbf4 hbt4 hbb4 hk3
          gi_wp2
          go_roundw
          case rel => exact ⟨k + 1, _, by simp; omega, by omega, HNX, HJ3, HW3, hbf3, hbt3, hbb3⟩
          case measure => simp [intOf]; omega
        · gi_wp2
          refine bodyPost_ret (results_none rfl _ _ _) rfl ?_
          exact ⟨⟨_, rfl⟩, .inr ⟨_, HPF.out, hJx3⟩⟩
    · have hltz : ¬ f + (k : Int) < t := fun h => hlt ((HN.out k).1 h)
      have hkn : k = n := by omega
      subst hkn
      gi_wp2
      go_end0
      refine ⟨⟨_, rfl⟩, .inl ?_⟩
      have h := HJp.out
      rw [Hpre.out] at h
      first | exact h | exact ⟨_, rfl, h⟩
/-- The loop over the minutes in which an article applies. -/
theorem range_minutes {b : Nat} {a : Art} {aC : Option Addr} {nC cC : Nat} {aH : Option Addr} {nH cH : Nat} {c : Cal} {aS : Option Addr} {nS cS : Nat} {s : Ses} {w0 : World} (H0 : Hid (BlrM w0 b a aC nC cC aH nH cH c aS nS cS s)) {f t : Int} (hf : 0 ≤ f) (ht : t ≤ 1000000000) {g : Operand} {p : Tmp} {assign body : Code} {Q : Exit → Act → World → Prop} {ac : Act} {w : World} (bf bt bb : Nat) (hw0 : Below w0.heap.size w0 w)
    (hg : ac.eval g = .func (.func 137) #[] #[.pointer (some ⟨bf, 0, none⟩), .pointer (some ⟨bt, 0, none⟩), .pointer (some ⟨bb, 0, none⟩)])
    (hbf : w.cell? ⟨bf, 0, none⟩ = some (.int .i64 f)) (hbt : w.cell? ⟨bt, 0, none⟩ = some (.int .i64 t)) (hbb : w.cell? ⟨bb, 0, none⟩ = some (.pointer (some ⟨b, 0, none⟩)))
    (I : List Nat → World → Prop) (hI : ∀ pre W W', I pre W → Nc w.heap.size W W' → I pre W') (h0 : I [] w) (Ax : Nat → Act → Prop)
    (hassign : ∀ (l : Nat) (x : Nat) (W : World) (K : Act → World → Prop), (∀ a', Ax x a' → K a' W) → assign.wpIn (Fence.wide.inRound l) 3 Tryz.prog (Exit.then K (fun _ _ _ => False)) { tmps := ac.tmps.setIfInBounds p (.int .i64 (f + x)), defers := [] } W)
    (hbody : ∀ (l : Nat) (pre : List Nat) (x : Nat) (a' : Act) (W : World), I pre W → Ax x a' → pre.length < (fl a c f (t - f).toNat).length → body.wpIn (Fence.wide.inRound l) 3 Tryz.prog (ownPostG w.heap.size (KpM w0.heap.size bf bt bb) I (fun _ _ _ => False) (pre ++ [x]) W) a' W)
    (hdone : ∀ (D : Nat) (ys : List Nat) (W : World), w.heap.size ≤ D → ys = fl a c f (t - f).toNat → I ys W → W.heap[D]? = some (.deferred (some [])) → Q .normal { ac with defers := { target := .collected D, args := #[] } :: ac.defers } W) :
    (Code.rangeFunc g #[p] assign body).wp Tryz.prog Q ac w := by
  have lf := World.block_lt_of_cell? w _ hbf
  have lt := World.block_lt_of_cell? w _ hbt
  have lb := World.block_lt_of_cell? w _ hbb
  dsimp only at lf lt lb
  refine (wpIn_wide (n := 5)).1 ?_
  refine wpIn_rangeFunc_ownH (F := Fence.wide) (α := Nat) rfl (by omega) (gf := 137) (lb := #[.pointer (some ⟨bf, 0, none⟩), .pointer (some ⟨bt, 0, none⟩), .pointer (some ⟨bb, 0, none⟩)]) hg trivial (enters_of Tryz.func137 (by kernel_rfl) rfl)
    (encs := fun x => #[.int .i64 (f + x)]) (Kp := KpM w0.heap.size bf bt bb) (S := fun (ys : List Nat) => ys = fl a c f (t - f).toNat) (Sp := fun (ys : List Nat) => List.IsPrefix ys (fl a c f (t - f).toNat)) (N := (fl a c f (t - f).toNat).length) (w0 := w)
    (fun l J Jx W' hW' hJ _ hY h0 => bMinutes1_in 4 (by omega) l bf bt bb b a aC nC cC aH nH cH c aS nS cS s w0 H0 f t hf ht J Jx W' (below_then hw0 hW') hJ hY ((hW'.cell (p := ⟨bf, 0, none⟩) lf).trans hbf) ((hW'.cell (p := ⟨bt, 0, none⟩) lt).trans hbt) ((hW'.cell (p := ⟨bb, 0, none⟩) lb).trans hbb) h0)
    ?hKt ?hKb (Below.refl _ _) (fun _ => rfl) I (fun _ _ _ => False) ?hI (fun _ _ _ _ _ h _ _ => h) h0 (fun x a' _ => Ax x a') (fun _ _ _ _ _ _ h _ _ => h) ?assign ?body ?done (fun _ _ _ _ _ _ h _ => h.elim)
  case hKt => exact fun h1 h2 => ⟨h1.bel.trans h2.bel, h2.s1.trans h1.s1, h2.s2.trans h1.s2, h2.s3.trans h1.s3⟩
  case hKb =>
    intro W' l o o' hl ho' _ _
    have := hw0.size
    exact ⟨⟨rfl, rfl, rfl, by simp, fun k hk => World.putObj_heap_other (by omega)⟩, World.putObj_heap_other (by omega), World.putObj_heap_other (by omega), World.putObj_heap_other (by omega)⟩
  case hI => exact fun pre W1 W2 row h hg hr => hI pre W1 W2 h ⟨row, hg, hr⟩
  case assign =>
    intro l pre x W1 K hi hK
    have ht : (#[p].zip #[Value.int .i64 (f + x)]).foldl (fun t (p, v) => t.setIfInBounds p v) ac.tmps = ac.tmps.setIfInBounds p (.int .i64 (f + x)) := by simp
    rw [ht]
    exact hassign l x W1 K (fun a' hx => hK a' W1 (KeepsFrom.refl _ _) ⟨Below.refl _ _, rfl, rfl, rfl⟩ hi hx)
  case body =>
    intro l pre x a' W1 hl hlr hi hx hlen
    exact hbody l pre x a' W1 hi hx hlen
  case done => exact fun D ys W1 hD hS hi hdf => hdone D ys W1 hD hS hi hdf
end Go.Proofs.YtoekpdnpncgeeaaGreat
/-
What the lines of a bill cost.
-/
namespace Go.Proofs.YtoekpdnpncgeeaaGreat
open Go.Shelf
open Go.RowKit
set_option linter.unusedVariables false
set_option linter.unusedSimpArgs false
attribute [local go_sem] Oper.semAt_some
/-- An amount, or the panic that leaves a bill. -/
def StPost (o : Option Int) (w : World) (e : Ending) (w' : World) : Prop :=
  (match o with
    | some v => e = .returned (.int .i64 v)
    | none => e = .panicked [{ v := .iface 98 (.agg #[.int .i64 3]), recovered := false }]) ∧ Below w.heap.size w w'
def StA (C : Nat) (a' : Act) : Prop := ∃ u0 u1 u2 u3 u4 u5 u6 u8 u9 u10 u11 u12 u13 u14 u15 u16 u17 u18 u19 u20 u21 u22 u23 u24 u25 u26 u27 u28 u29 u30 u31 u32 u33 u34 u35 u36, a' = ⟨List.toArray (u0 :: u1 :: u2 :: u3 :: u4 :: u5 :: u6 :: (.pointer (some ⟨C, 0, none⟩)) :: u8 :: u9 :: u10 :: u11 :: u12 :: u13 :: u14 :: u15 :: u16 :: u17 :: u18 :: u19 :: u20 :: u21 :: u22 :: u23 :: u24 :: u25 :: u26 :: u27 :: u28 :: u29 :: u30 :: u31 :: u32 :: u33 :: u34 :: u35 :: u36 :: []), []⟩
theorem leaves_marksP {n : Nat} {P : Program} {fn : Func} {tmps : Array Value} {R : Ending → World → Prop} {B : Nat} {chain : List PanicEntry} : ∀ (ds : List Deferred) (W : World), Marks B W ds →
    (∀ W', Taken B W W' → R (.panicked chain) W') → LeavesInM Fence.wide n P fn tmps R ds (.panicking chain) W
  | [], W, _, h => h W (Taken.refl B W)
  | d :: ds, W, ⟨Ds, e, hn, hm⟩, h => by
    match Ds, e, hn, hm with
    | D :: Ds, e, hn, hm =>
      have e1 : d = { target := .collected D, args := #[] } := by injection e
      have e2 : ds = Ds.map (fun D => ({ target := .collected D, args := #[] } : Deferred)) := by injection e
      obtain ⟨hB, hlt, hd⟩ := hm D (List.mem_cons_self ..)
      have hn' := List.nodup_cons.1 hn
      refine ⟨by simp, .inl ⟨D, _, by rw [e1], run_takeDeferred hd, ?_⟩⟩
      have hoth : ∀ k, k ≠ D → (W.putObj D (.deferred none)).heap[k]? = W.heap[k]? := fun k hk => World.putObj_heap_other hk
      refine leaves_marksP (B := B) ds _ ⟨Ds, e2, hn'.2, fun D' hD' => ?_⟩ (fun W' hT => h W' ?_)
      · obtain ⟨a, b, c⟩ := hm D' (List.mem_cons_of_mem _ hD')
        exact ⟨a, by simpa using b, by rw [hoth D' (fun x => hn'.1 (x ▸ hD'))]; exact c⟩
      · refine ⟨hT.1, hT.2.1, hT.2.2.1, by rw [hT.2.2.2.1]; simp, fun k hk => (hT.2.2.2.2.1 k hk).trans (hoth k (by omega)), fun k o hk ho => hT.2.2.2.2.2 k o ?_ ho⟩
        rw [hoth k (by rintro rfl; rw [hd] at hk; cases hk; cases ho)]
        exact hk
/-- A statement behind a range over a function that may panic. -/
theorem wp_marked {P : Program} {c : Code} {Q : Exit → Act → World → Prop} {a : Act} {w : World} (ds : List Deferred) (PP : List PanicEntry → World → Prop) (hp : ∀ ch a' w', a'.defers = ds → PP ch w' → Q (.panic ch) a' w')
    (h : ∀ K : Act → World → Prop, (∀ a' w', Q .normal a' w' → K a' w') → Code.wp P c (fun e a' w' => match e with
      | .normal => K a' w'
      | .panic ch => a'.defers = ds ∧ PP ch w'
      | _ => False) a w) : Code.wp P c Q a w := by
  refine wp_mono (h (Q .normal) (fun _ _ hq => hq)) ?_
  intro e a' w' hq
  cases e <;> first | exact hq | exact hq.elim | exact hp _ _ _ hq.1 hq.2
theorem keepsFrom_lowQ {M : Nat → Prop} {W W' : World} (h : Mod M W W') (B : Nat) (hM : ∀ k, M k → k < B) : KeepsFrom B W W' :=
  ⟨h.size, fun q o hq ho hoc => by rw [h.block q (Array.getElem?_eq_some_iff.1 ho).1 (fun hm => by have := hM q hm; omega)]; exact ho⟩
theorem taken_belowQ {B B' : Nat} {W W' : World} (hT : Taken B W W') (hB : B' ≤ B) : Below B' W W' :=
  ⟨hT.1, hT.2.1, hT.2.2.1, by rw [hT.2.2.2.1]; exact Nat.le_refl _, fun k hk => hT.2.2.2.2.1 k (by omega)⟩
theorem fitE_three (v : Int) : fitE v = 0 ∨ fitE v = 1 ∨ fitE v = 3 := by
  unfold fitE
  split
  · exact .inl rfl
  · exact .inr (.inr rfl)
theorem startE_three (p q r : Int) : startE p q r = 0 ∨ startE p q r = 1 ∨ startE p q r = 3 := by
  unfold startE
  split
  · exact fitE_three _
  · exact .inr (.inl rfl)
theorem timesE_three (p q r : Int) : timesE p q r = 0 ∨ timesE p q r = 1 ∨ timesE p q r = 3 := by
  unfold timesE
  split
  · exact fitE_three _
  · exact .inr (.inl rfl)
theorem taxE_three (p q : Int) : taxE p q = 0 ∨ taxE p q = 1 ∨ taxE p q = 3 := by
  unfold taxE
  split
  · exact fitE_three _
  · exact .inr (.inl rfl)
set_option maxRecDepth 100000 in
set_option maxHeartbeats 16000000 in
theorem bStretch_any (b : Nat) (a : Art) (aC : Option Addr) (nC cC : Nat) (aH : Option Addr) (nH cH : Nat) (c : Cal) (aS : Option Addr) (nS cS : Nat) (s : Ses) (f t : Int) (w : World) (HB : Hid (BlrM w b a aC nC cC aH nH cH c aS nS cS s)) (hf : 0 ≤ f) (htf : t - f ≤ 2880) (ht : t ≤ 1000000000) (hfr : 0 ≤ a.free ∧ a.free ≤ 1440) : Calls Tryz.prog 106 #[.pointer (some ⟨b, 0, none⟩), .int .i64 f, .int .i64 t] w (StPost (stretchO a c f t) w) := by
  have HF := Lib.hid hfr
  have HBD : Hid (0 ≤ f ∧ t - f ≤ 2880 ∧ t ≤ 1000000000) := Lib.hid ⟨hf, htf, ht⟩
  obtain ⟨W1, hW1⟩ : ∃ W, W = w.alloc (.cells #[.int .i64 0] 3) := ⟨_, rfl⟩
  obtain ⟨C, hC⟩ : ∃ C, C = w.heap.size := ⟨_, rfl⟩
  have hb1 : Below w.heap.size w W1 := by rw [hW1]; exact (Below.refl _ _).alloc (Nat.le_refl _) _
  have HOC : Hid (Own W1 C 3 1 (fun _ => .int .i64 0)) := Lib.hid (by rw [hW1, hC]; exact Own.one _ _ _)
  have hs1 : W1.heap.size = C + 1 := by rw [hW1, hC]; simp
  have HB1 := Lib.hid hb1
  have HCW := Lib.hid hC
  have HW1 := Lib.hid hW1
  clear hb1 hW1 hC hfr hf htf ht
  refine (callsIn_wide (n := 5)).1 ?_
  refine callsIn_of_wp_marks Tryz.func106 rfl trivial ?_ rfl
  refine wpIn_wide.2 ?_
  simp only [Tryz.ntmps106, List.size_toArray, List.length_cons, List.length_nil, Nat.reduceAdd, Nat.reduceSub, Array.replicate_succ, Array.replicate_zero, List.push_toArray, List.append_toArray, List.nil_append, List.cons_append]
  go_upto_region 2 with (fail)
  rw [← HW1.out, ← HCW.out]
  clear HW1
  go_wp2_with fail
  refine (bMinutes_any b f t W1).mono ?_
  rintro e w3 ⟨rfl, hw3⟩
  have b3 : Below W1.heap.size W1 w3 := by rw [hw3]; exact (((Below.refl _ W1).alloc (Nat.le_refl _) _).alloc (by simp) _).alloc (by simp; omega) _
  have z1 : w3.cell? ⟨C + 2, 0, none⟩ = some (.int .i64 f) := by rw [hw3, show C + 2 = W1.heap.size + 1 by omega]; go_simp
  have z2 : w3.cell? ⟨C + 3, 0, none⟩ = some (.int .i64 t) := by rw [hw3, show C + 3 = W1.heap.size + 2 by omega]; go_simp
  have z3 : w3.cell? ⟨C + 1, 0, none⟩ = some (.pointer (some ⟨b, 0, none⟩)) := by rw [hw3, ← hs1]; go_simp
  have hs3 : w3.heap.size = C + 4 := by rw [hw3]; simp [hs1]
  have HB3 : Hid (Below w.heap.size w w3) := Lib.hid (HB1.out.trans (b3.mono HB1.out.size))
  have HOC := Lib.hid (HOC.out.keep b3 HOC.out.lt)
  have HS3 : Hid (w3.heap.size = C + 4 ∧ w.heap.size = C) := Lib.hid ⟨hs3, HCW.out.symm⟩
  rw [hs1]
  clear hw3 b3 hs1 HB1 hs3
  go_wp2_with fail
  refine range_minutes HB HBD.out.1 HBD.out.2.2 (g := .tmp 11) (p := 12) (C + 2) (C + 3) (C + 1) HB3.out rfl z1 z2 z3 (fun pre W' => Own W' C 3 1 (fun _ => .int .i64 (pre.length : Nat)) ∧ Below w.heap.size w W') ?hI ⟨HOC.out, HB3.out⟩ (fun x a' => StA C a') ?assign ?body ?done
  case hI => exact fun pre W W' h hn => ⟨h.1.nc hn, below_nc h.2 (Nat.le_refl _) hn HB3.out.size⟩
  case assign =>
    intro l x W1 K hK
    gi_wp2
    exact ⟨_, _, _, _, _, _, _, _, _, _, _, _, _, _, _, _, _, _, _, _, _, _, _, _, _, _, _, _, _, _, _, _, _, _, _, _, rfl⟩
  case body =>
    rintro l pre x a' W2 ⟨ho, hbw⟩ ⟨u0, u1, u2, u3, u4, u5, u6, u8, u9, u10, u11, u12, u13, u14, u15, u16, u17, u18, u19, u20, u21, u22, u23, u24, u25, u26, u27, u28, u29, u30, u31, u32, u33, u34, u35, u36, rfl⟩ hlen
    have q0 := ho.cell (i := 0) (by omega)
    have qf := ho.frozen 0
    have hCl : C < W2.heap.size := ho.lt
    have hpl : pre.length ≤ 2880 := by
      have h1 := cntN_le a c f (t - f).toNat
      rw [← fl_len] at h1
      have := HBD.out
      omega
    have hm : Mod (fun j => j = C) W2 (W2.setCell ⟨C, 0, none⟩ (.int .i64 ((pre.length : Int) + 1))) := (Mod.refl (fun j => j = C) W2).setCell (p := ⟨C, 0, none⟩) (.inl rfl) _
    have HP : Hid (KeepsFrom w3.heap.size W2 (W2.setCell ⟨C, 0, none⟩ (.int .i64 ((pre.length : Int) + 1))) ∧ KpM w.heap.size (C + 2) (C + 3) (C + 1) W2 (W2.setCell ⟨C, 0, none⟩ (.int .i64 ((pre.length : Int) + 1))) ∧ (Own (W2.setCell ⟨C, 0, none⟩ (.int .i64 ((pre.length : Int) + 1))) C 3 1 (fun _ => .int .i64 ((pre ++ [x]).length : Nat)) ∧ Below w.heap.size w (W2.setCell ⟨C, 0, none⟩ (.int .i64 ((pre.length : Int) + 1))))) := Lib.hid (by
      have hz := HS3.out
      have hb := hm.below (B := w.heap.size) hbw.size (fun j _ e => by omega)
      refine ⟨keepsFrom_lowQ hm _ (fun k e => by omega), ⟨hb, Below.heap_setCell _ _ _ _ (by show C + 2 ≠ C; omega), Below.heap_setCell _ _ _ _ (by show C + 3 ≠ C; omega), Below.heap_setCell _ _ _ _ (by show C + 1 ≠ C; omega)⟩, ?_, hbw.trans hb⟩
      have h1 := ho.set1 (.int .i64 ((pre.length : Int) + 1))
      rw [List.length_append]
      simpa using h1)
    clear ho hbw hm
    gi_wp2
    exact HP.out
  case done =>
    intro D ys W4 hD hS hm hdf
    obtain ⟨ho, hbw⟩ := hm
    have HDF : Hid (W4.heap[D]? = some (.deferred (some [])) ∧ C + 4 ≤ D) := Lib.hid ⟨hdf, by have := HS3.out; omega⟩
    obtain ⟨k, hk⟩ : ∃ k, k = ys.length := ⟨_, rfl⟩
    rw [← hk] at ho
    have HKC : Hid (k = cntN a c f (t - f).toNat) := Lib.hid (by rw [hk, hS, fl_len])
    have hk2880 : k ≤ 2880 := by have := cntN_le a c f (t - f).toNat; have := HKC.out; have := HBD.out; omega
    have HBL := Lib.hid (HB.out.keep hbw)
    have HB4 := Lib.hid hbw
    have HOK := Lib.hid ho
    obtain ⟨hfr0, hfr1⟩ := HF.out
    have hwi : IntKind.i64.wrap ((k : Int) - a.free) = (k : Int) - a.free := IntWalk.i64_in _ (by omega)
    have HO : Hid (stretchO a c f t = if startE a.price (max 0 ((k : Int) - a.free)) a.unit = 0 then some (startV a.price (max 0 ((k : Int) - a.free)) a.unit) else none) := Lib.hid (by unfold stretchO; rw [HKC.out])
    clear ho hbw hdf hS hk hD z1 z2 z3
    go_upto_region 4 with (fail)
    refine wp_marked [{ target := .collected D, args := #[] }] (fun ch W' => ch = [{ v := .iface 98 (.agg #[.int .i64 3]), recovered := false }] ∧ stretchO a c f t = none ∧ Below w.heap.size w W' ∧ W'.heap[D]? = some (.deferred (some []))) ?pan (fun K hK => ?_)
    case pan =>
      rintro ch a' w' hd ⟨rfl, hno, hb, hdf⟩
      show LeavesInM _ _ _ _ _ _ _ _ _
      rw [hd]
      refine leaves_marksP (B := w.heap.size + 1) _ _ ⟨[D], rfl, by simp, fun D' hD' => ?_⟩ (fun W3 hT => ?_)
      · have e : D' = D := by simpa using hD'
        subst e
        exact ⟨by have := HDF.out.2; have := HS3.out; omega, (Array.getElem?_eq_some_iff.1 hdf).1, hdf⟩
      · exact ⟨by rw [hno], hb.trans (taken_belowQ hT (by omega))⟩
    have HKK := Lib.hid hK
    clear hK
    refine region_z (S := fun w' => BlrM w' b a aC nC cC aH nH cH c aS nS cS s ∧ w'.cell? ⟨C, 0, none⟩ = some (.int .i64 (k : Nat))) [] (by kernel_rfl) ⟨HBL.out.drewN, HOK.out.cell (i := 0) (by omega)⟩ (fun hHeld => ?_)
    refine wpAnyZ_take (i := 0) (v := .pointer (some ⟨b, 0, none⟩)) [1, 2, 3, 4, 18, 19, 20, 21, 22] rfl (by kernel_rfl) (by kernel_rfl) (by kernel_rfl) (by kernel_rfl) (fun _ _ _ h => h) (Or.inl ⟨by kernel_rfl, fun w' hSw => ?_⟩) hHeld ?_
    · clear hHeld hSw
      go_simp
    simp only [Act.put, List.getElem_toArray, List.getElem_cons_zero, List.getElem_cons_succ, List.setIfInBounds_toArray, List.set_cons_zero, List.set_cons_succ]
    refine wpAnyZ_take (i := 1) (v := .pointer (some ⟨b, 0, none⟩)) [2, 3, 4, 18, 19, 20, 21, 22] rfl (by kernel_rfl) (by kernel_rfl) (by kernel_rfl) (by kernel_rfl) (fun _ _ _ h => h) (Or.inl ⟨by kernel_rfl, fun w' hSw => ?_⟩) hHeld ?_
    · clear hHeld hSw
      go_simp
    simp only [Act.put, List.getElem_toArray, List.getElem_cons_zero, List.getElem_cons_succ, List.setIfInBounds_toArray, List.set_cons_zero, List.set_cons_succ]
    refine wpAnyZ_take (i := 2) (v := .pointer (some ⟨b, 0, none⟩)) [3, 4, 18, 19, 20, 21, 22] rfl (by kernel_rfl) (by kernel_rfl) (by kernel_rfl) (by kernel_rfl) (fun _ _ _ h => h) (Or.inl ⟨by kernel_rfl, fun w' hSw => ?_⟩) hHeld ?_
    · clear hHeld hSw
      go_simp
    simp only [Act.put, List.getElem_toArray, List.getElem_cons_zero, List.getElem_cons_succ, List.setIfInBounds_toArray, List.set_cons_zero, List.set_cons_succ]
    refine wpAnyZ_take (i := 3) (v := .pointer (some ⟨b, 4, none⟩)) [4, 18, 19, 20, 21, 22] rfl (by kernel_rfl) (by kernel_rfl) (by kernel_rfl) (by kernel_rfl) (fun _ _ _ h => h) (Or.inl ⟨by kernel_rfl, fun w' hSw => ?_⟩) hHeld ?_
    · clear hHeld hSw
      go_simp
    simp only [Act.put, List.getElem_toArray, List.getElem_cons_zero, List.getElem_cons_succ, List.setIfInBounds_toArray, List.set_cons_zero, List.set_cons_succ]
    refine wpAnyZ_take (i := 4) (v := .int .i64 a.price) [18, 19, 20, 21, 22] rfl (by kernel_rfl) (by kernel_rfl) (by kernel_rfl) (by kernel_rfl) (fun _ _ _ h => h) (Or.inl ⟨by kernel_rfl, fun w' hSw => ?_⟩) hHeld ?_
    · obtain ⟨hbl, hcc⟩ := hSw
      have p4 := hbl.p4
      have p5 := hbl.p5
      have p6 := hbl.p6
      clear hbl
      clear hHeld
      go_simp
    simp only [Act.put, List.getElem_toArray, List.getElem_cons_zero, List.getElem_cons_succ, List.setIfInBounds_toArray, List.set_cons_zero, List.set_cons_succ]
    refine wpAnyZ_take (i := 5) (v := .int .i64 (k : Nat)) [11, 12, 18, 19, 20, 21, 22] rfl (by kernel_rfl) (by kernel_rfl) (by kernel_rfl) (by kernel_rfl) (fun _ _ _ h => h) (Or.inl ⟨by kernel_rfl, fun w' hSw => ?_⟩) hHeld ?_
    · obtain ⟨hbl, hcc⟩ := hSw
      have p4 := hbl.p4
      have p5 := hbl.p5
      have p6 := hbl.p6
      clear hbl
      clear hHeld
      go_simp
    simp only [Act.put, List.getElem_toArray, List.getElem_cons_zero, List.getElem_cons_succ, List.setIfInBounds_toArray, List.set_cons_zero, List.set_cons_succ]
    refine wpAnyZ_take (i := 6) (v := .pointer (some ⟨b, 0, none⟩)) [7, 8, 9, 10, 11, 12, 18, 19, 20, 21, 22] rfl (by kernel_rfl) (by kernel_rfl) (by kernel_rfl) (by kernel_rfl) (fun _ _ _ h => h) (Or.inl ⟨by kernel_rfl, fun w' hSw => ?_⟩) hHeld ?_
    · clear hHeld hSw
      go_simp
    simp only [Act.put, List.getElem_toArray, List.getElem_cons_zero, List.getElem_cons_succ, List.setIfInBounds_toArray, List.set_cons_zero, List.set_cons_succ]
    refine wpAnyZ_take (i := 7) (v := .pointer (some ⟨b, 0, none⟩)) [8, 9, 10, 11, 12, 18, 19, 20, 21, 22] rfl (by kernel_rfl) (by kernel_rfl) (by kernel_rfl) (by kernel_rfl) (fun _ _ _ h => h) (Or.inl ⟨by kernel_rfl, fun w' hSw => ?_⟩) hHeld ?_
    · clear hHeld hSw
      go_simp
    simp only [Act.put, List.getElem_toArray, List.getElem_cons_zero, List.getElem_cons_succ, List.setIfInBounds_toArray, List.set_cons_zero, List.set_cons_succ]
    refine wpAnyZ_take (i := 8) (v := .pointer (some ⟨b, 0, none⟩)) [9, 10, 11, 12, 18, 19, 20, 21, 22] rfl (by kernel_rfl) (by kernel_rfl) (by kernel_rfl) (by kernel_rfl) (fun _ _ _ h => h) (Or.inl ⟨by kernel_rfl, fun w' hSw => ?_⟩) hHeld ?_
    · clear hHeld hSw
      go_simp
    simp only [Act.put, List.getElem_toArray, List.getElem_cons_zero, List.getElem_cons_succ, List.setIfInBounds_toArray, List.set_cons_zero, List.set_cons_succ]
    refine wpAnyZ_take (i := 9) (v := .pointer (some ⟨b, 6, none⟩)) [10, 11, 12, 18, 19, 20, 21, 22] rfl (by kernel_rfl) (by kernel_rfl) (by kernel_rfl) (by kernel_rfl) (fun _ _ _ h => h) (Or.inl ⟨by kernel_rfl, fun w' hSw => ?_⟩) hHeld ?_
    · clear hHeld hSw
      go_simp
    simp only [Act.put, List.getElem_toArray, List.getElem_cons_zero, List.getElem_cons_succ, List.setIfInBounds_toArray, List.set_cons_zero, List.set_cons_succ]
    refine wpAnyZ_take (i := 10) (v := .int .i64 a.free) [11, 12, 18, 19, 20, 21, 22] rfl (by kernel_rfl) (by kernel_rfl) (by kernel_rfl) (by kernel_rfl) (fun _ _ _ h => h) (Or.inl ⟨by kernel_rfl, fun w' hSw => ?_⟩) hHeld ?_
    · obtain ⟨hbl, hcc⟩ := hSw
      have p4 := hbl.p4
      have p5 := hbl.p5
      have p6 := hbl.p6
      clear hbl
      clear hHeld
      go_simp
    simp only [Act.put, List.getElem_toArray, List.getElem_cons_zero, List.getElem_cons_succ, List.setIfInBounds_toArray, List.set_cons_zero, List.set_cons_succ]
    refine wpAnyZ_take (i := 11) (v := .int .i64 ((k : Nat) - a.free)) [12, 18, 19, 20, 21, 22] rfl (by kernel_rfl) (by kernel_rfl) (by kernel_rfl) (by kernel_rfl) (fun _ _ _ h => h) (Or.inl ⟨by kernel_rfl, fun w' hSw => ?_⟩) hHeld ?_
    · clear hHeld hSw
      go_simp
    simp only [Act.put, List.getElem_toArray, List.getElem_cons_zero, List.getElem_cons_succ, List.setIfInBounds_toArray, List.set_cons_zero, List.set_cons_succ]
    refine wpAnyZ_take (i := 12) (v := .int .i64 (max 0 ((k : Nat) - a.free))) [18, 19, 20, 21, 22] rfl (by kernel_rfl) (by kernel_rfl) (by kernel_rfl) (by kernel_rfl) (fun _ _ _ h => h) (Or.inl ⟨by kernel_rfl, fun w' hSw => ?_⟩) hHeld ?_
    · clear hHeld hSw
      go_simp
      split <;> omega
    simp only [Act.put, List.getElem_toArray, List.getElem_cons_zero, List.getElem_cons_succ, List.setIfInBounds_toArray, List.set_cons_zero, List.set_cons_succ]
    refine wpAnyZ_take (i := 13) (v := .pointer (some ⟨b, 0, none⟩)) [14, 15, 16, 17, 18, 19, 20, 21, 22] rfl (by kernel_rfl) (by kernel_rfl) (by kernel_rfl) (by kernel_rfl) (fun _ _ _ h => h) (Or.inl ⟨by kernel_rfl, fun w' hSw => ?_⟩) hHeld ?_
    · clear hHeld hSw
      go_simp
    simp only [Act.put, List.getElem_toArray, List.getElem_cons_zero, List.getElem_cons_succ, List.setIfInBounds_toArray, List.set_cons_zero, List.set_cons_succ]
    refine wpAnyZ_take (i := 14) (v := .pointer (some ⟨b, 0, none⟩)) [15, 16, 17, 18, 19, 20, 21, 22] rfl (by kernel_rfl) (by kernel_rfl) (by kernel_rfl) (by kernel_rfl) (fun _ _ _ h => h) (Or.inl ⟨by kernel_rfl, fun w' hSw => ?_⟩) hHeld ?_
    · clear hHeld hSw
      go_simp
    simp only [Act.put, List.getElem_toArray, List.getElem_cons_zero, List.getElem_cons_succ, List.setIfInBounds_toArray, List.set_cons_zero, List.set_cons_succ]
    refine wpAnyZ_take (i := 15) (v := .pointer (some ⟨b, 0, none⟩)) [16, 17, 18, 19, 20, 21, 22] rfl (by kernel_rfl) (by kernel_rfl) (by kernel_rfl) (by kernel_rfl) (fun _ _ _ h => h) (Or.inl ⟨by kernel_rfl, fun w' hSw => ?_⟩) hHeld ?_
    · clear hHeld hSw
      go_simp
    simp only [Act.put, List.getElem_toArray, List.getElem_cons_zero, List.getElem_cons_succ, List.setIfInBounds_toArray, List.set_cons_zero, List.set_cons_succ]
    refine wpAnyZ_take (i := 16) (v := .pointer (some ⟨b, 5, none⟩)) [17, 18, 19, 20, 21, 22] rfl (by kernel_rfl) (by kernel_rfl) (by kernel_rfl) (by kernel_rfl) (fun _ _ _ h => h) (Or.inl ⟨by kernel_rfl, fun w' hSw => ?_⟩) hHeld ?_
    · clear hHeld hSw
      go_simp
    simp only [Act.put, List.getElem_toArray, List.getElem_cons_zero, List.getElem_cons_succ, List.setIfInBounds_toArray, List.set_cons_zero, List.set_cons_succ]
    refine wpAnyZ_take (i := 17) (v := .int .i64 a.unit) [18, 19, 20, 21, 22] rfl (by kernel_rfl) (by kernel_rfl) (by kernel_rfl) (by kernel_rfl) (fun _ _ _ h => h) (Or.inl ⟨by kernel_rfl, fun w' hSw => ?_⟩) hHeld ?_
    · obtain ⟨hbl, hcc⟩ := hSw
      have p4 := hbl.p4
      have p5 := hbl.p5
      have p6 := hbl.p6
      clear hbl
      clear hHeld
      go_simp
    simp only [Act.put, List.getElem_toArray, List.getElem_cons_zero, List.getElem_cons_succ, List.setIfInBounds_toArray, List.set_cons_zero, List.set_cons_succ]
    refine wpAnyZ_one (i := 18) (by kernel_rfl) rfl (fun K' hK => ?_)
    go_simp
    obtain ⟨hBh, hcc⟩ := hHeld
    refine (mStarted_all a.price (max 0 ((k : Int) - a.free)) a.unit _).mono ?_
    rintro e w4 ⟨rfl, hb4⟩
    have HB5 : Hid (Below w.heap.size w w4) := Lib.hid (HB4.out.trans ((below_of_drew' hb4).mono HB4.out.size))
    have HD5 : Hid (w4.heap[D]? = some (.deferred (some []))) := Lib.hid ((hb4.block D (Array.getElem?_eq_some_iff.1 HDF.out.1).1).trans HDF.out.1)
    have hq : BlrM w4 b a aC nC cC aH nH cH c aS nS cS s ∧ w4.cell? ⟨C, 0, none⟩ = some (.int .i64 (k : Nat)) := ⟨hBh.keep hb4, (hb4.cell (p := ⟨C, 0, none⟩) (World.block_lt_of_cell? _ _ hcc)).trans hcc⟩
    have HE3 := Lib.hid (startE_three a.price (max 0 ((k : Int) - a.free)) a.unit)
    generalize startV a.price (max 0 ((k : Int) - a.free)) a.unit = sv at *
    generalize startE a.price (max 0 ((k : Int) - a.free)) a.unit = se at *
    refine hK.out _ _ ?_ (fun hHeld' => ?_)
    · exact hq
    clear hK K' hBh hcc hb4 hq
    have hHeld := hHeld'
    clear hHeld'
    try simp only [Act.put, List.getElem_toArray, List.getElem_cons_zero, List.getElem_cons_succ, List.setIfInBounds_toArray, List.set_cons_zero, List.set_cons_succ]
    refine wpAnyZ_take (i := 19) (v := .int .i64 sv) [21, 22] rfl (by kernel_rfl) (by kernel_rfl) (by kernel_rfl) (by kernel_rfl) (fun _ _ _ h => h) (Or.inl ⟨by kernel_rfl, fun w' hSw => ?_⟩) hHeld ?_
    · clear hHeld hSw
      go_simp
    simp only [Act.put, List.getElem_toArray, List.getElem_cons_zero, List.getElem_cons_succ, List.setIfInBounds_toArray, List.set_cons_zero, List.set_cons_succ]
    refine wpAnyZ_take (i := 20) (v := .int .i64 se) [21, 22] rfl (by kernel_rfl) (by kernel_rfl) (by kernel_rfl) (by kernel_rfl) (fun _ _ _ h => h) (Or.inl ⟨by kernel_rfl, fun w' hSw => ?_⟩) hHeld ?_
    · clear hHeld hSw
      go_simp
    simp only [Act.put, List.getElem_toArray, List.getElem_cons_zero, List.getElem_cons_succ, List.setIfInBounds_toArray, List.set_cons_zero, List.set_cons_succ]
    rcases HE3.out with he | he
    · subst he
      refine wpAnyZ_one (i := 21) (by kernel_rfl) rfl (fun K' hK => ?_)
      go_simp
      refine (bMust_ok _ _).mono ?_
      rintro e w5 ⟨rfl, hw5⟩
      subst hw5
      refine hK.out _ _ ?_ (fun hHeld' => ?_)
      · exact hHeld
      clear hK K' hHeld
      have hHeld := hHeld'
      clear hHeld'
      try simp only [Act.put, List.getElem_toArray, List.getElem_cons_zero, List.getElem_cons_succ, List.setIfInBounds_toArray, List.set_cons_zero, List.set_cons_succ]
      refine wpAnyZ_take (i := 22) (v := .int .i64 sv) [] rfl (by kernel_rfl) (by kernel_rfl) (by kernel_rfl) (by kernel_rfl) (fun _ _ _ h => h) (Or.inl ⟨by kernel_rfl, fun w' hSw => ?_⟩) hHeld ?_
      · clear hHeld hSw
        go_simp
      simp only [Act.put, List.getElem_toArray, List.getElem_cons_zero, List.getElem_cons_succ, List.setIfInBounds_toArray, List.set_cons_zero, List.set_cons_succ]
      refine wpAnyZ_done (by kernel_rfl) ?_ _
      refine HKK.out _ _ ?_
      clear hHeld
      go_step
      go_step
      go_wp2_with fail
      refine leaves_marks (B := w.heap.size + 1) _ _ ⟨[D], rfl, by simp, fun D' hD' => ?_⟩ (fun W3 hT => ?_)
      · have e : D' = D := by simpa using hD'
        subst e
        exact ⟨by have := HDF.out.2; have := HS3.out; omega, (Array.getElem?_eq_some_iff.1 HD5.out).1, HD5.out⟩
      · refine ⟨_, results_tmp (t := 6) (by kernel_rfl) _ _ _, ?_⟩
        exact ⟨by rw [show stretchO a c f t = some sv by rw [HO.out]; simp]; rfl, HB5.out.trans (taken_belowQ hT (by omega))⟩
    · refine wpAnyZ_one (i := 21) (by kernel_rfl) rfl (fun K' hK => ?_)
      go_simp
      refine (bMust_no _ _ _ he).mono ?_
      rintro e w5 ⟨rfl, hw5⟩
      subst hw5
      exact ⟨rfl, by rw [HO.out, if_neg (by omega)], HB5.out, HD5.out⟩
end Go.Proofs.YtoekpdnpncgeeaaGreat
/-
The kinds of lines of a bill, and which function computes a line.
-/
namespace Go.Proofs.YtoekpdnpncgeeaaGreat
open Go.RowKit
set_option linter.unusedVariables false
set_option linter.unusedSimpArgs false
theorem sesB_iff {s : Ses} : sesB s = true ↔ 0 ≤ s.frm ∧ s.frm < s.till ∧ s.till - s.frm ≤ 2880 ∧ s.till ≤ 52560000 ∧ s.frm ≤ s.fin ∧ s.fin ≤ s.till ∧ s.sl.length ≤ 48 ∧ slB s.fin (s.frm - 1) s.sl = true := by
  unfold sesB
  simp only [Bool.and_eq_true, decide_eq_true_eq]
theorem slB_en {fin : Int} : ∀ {b : Int} {l : List Slc} {i : Nat} {x : Slc}, slB fin b l = true → l[i]? = some x → 0 ≤ x.en ∧ x.en ≤ 10000
  | _, [], i, x, _, hx => by simp at hx
  | b, y :: r, i, x, h, hx => by
    unfold slB at h
    simp only [Bool.and_eq_true, decide_eq_true_eq] at h
    cases i with
    | zero => simp at hx; subst hx; exact ⟨h.2.2.1, h.2.2.2.1⟩
    | succ i => exact slB_en h.2.2.2.2 (by simpa using hx)
def begV (a : Art) (c : Cal) (s : Ses) : Int := if appB a c s.frm then a.price else 0
def enO (a : Art) (c : Cal) (s : Ses) : Option Int := if timesE a.price (enS a c s.sl) 1000 = 0 then some (timesV a.price (enS a c s.sl) 1000) else none
theorem art_free {a : Art} (h : artB a = true) (hk : a.kind = 3 ∨ a.kind = 4) : 0 ≤ a.free ∧ a.free ≤ 1440 := by
  unfold artB at h
  simp only [Bool.and_eq_true] at h
  have h7 := h.2.2.2.2.2.2
  have ht : timeB a.kind = true := by
    unfold timeB
    rcases hk with e | e <;> rw [e] <;> rfl
  rw [if_pos ht] at h7
  simp only [Bool.and_eq_true] at h7
  exact amB_of h7.2
set_option maxRecDepth 100000 in
set_option maxHeartbeats 8000000 in
theorem bEnergy_any (b : Nat) (a : Art) (aC : Option Addr) (nC cC : Nat) (aH : Option Addr) (nH cH : Nat) (c : Cal) (aS : Option Addr) (nS cS : Nat) (s : Ses) (w : World) (HB : Hid (BlrM w b a aC nC cC aH nH cH c aS nS cS s)) (hs : sesB s = true) : Calls Tryz.prog 73 #[.pointer (some ⟨b, 0, none⟩)] w (StPost (enO a c s) w) := by
  have HS := Lib.hid hs
  obtain ⟨g1', g2', g3', g4', g5', g6', g7', HSL0⟩ := sesB_iff.1 hs
  have HSL := Lib.hid HSL0
  have HBL := HB
  clear hs g1' g2' g3' g4' g5' g6' HSL0
  have HLN : Hid (s.sl.length = nS) := Lib.hid HB.out.rs.ls
  have hn48 : nS ≤ 48 := by rw [← HLN.out]; exact g7'
  clear g7'
  go_enter Tryz.func73, Tryz.ntmps73
  have p13 : w.cell? ⟨b, 13, none⟩ = some (.slice aS nS cS) := HBL.out.p13
  have hlb : b < w.heap.size := World.block_lt_of_cell? w _ p13
  go_wp2_with fail
  have HB0 : Hid (Below w.heap.size w w) := Lib.hid (Below.refl _ _)
  have HS0 : Hid (enS a c s.sl = 0 + enS a c (s.sl.drop 0)) := Lib.hid (by simp)
  clear p13 hlb
  go_loopg [3, 12] nS (fun g1 v3 v12 wr => ∃ (i : Nat) (z : Int), v3 = .int .i64 z ∧ v12 = .int .i64 i ∧ i ≤ nS ∧ nS - i ≤ g1 ∧ 0 ≤ z ∧ z ≤ 10000 * (i : Int) ∧ Hid (enS a c s.sl = z + enS a c (s.sl.drop i)) ∧ Hid (Below w.heap.size w wr))
  case atStart => exact ⟨0, 0, rfl, by go_num, by omega, by omega, by omega, by omega, HS0, HB0⟩
  case round =>
    clear HB0 HS0
    obtain ⟨i, z, rfl, rfl, hi, hg1, hz0, hz1, HR, HW⟩ := hrel
    have HBL := Lib.hid (HB.out.keep HW.out)
    by_cases hlt : i < nS
    · have hltz : (i : Int) < (nS : Int) := by omega
      obtain ⟨bb, off, x, hA, hbl, hgx, hc0, hc1⟩ := rdSlc_at HBL.out.rs.rs (show i < s.sl.length by rw [HLN.out]; exact hlt)
      obtain ⟨hx0, hx1⟩ := slB_en HSL.out hgx
      have HRR : Hid (enS a c s.sl = z + ((if appB a c x.mn then x.en else 0) + enS a c (s.sl.drop (i + 1)))) := Lib.hid (by rw [HR.out, drop_at hgx]; rfl)
      clear HR hgx
      subst hA
      obtain ⟨W1, hW1⟩ : ∃ W, W = wr.alloc (.cells #[.int .i64 x.mn, .int .i64 x.en] 37) := ⟨_, rfl⟩
      obtain ⟨Z, hZ⟩ : ∃ Z, Z = wr.heap.size := ⟨_, rfl⟩
      have hb1 : Below wr.heap.size wr W1 := by rw [hW1]; exact (Below.refl _ _).alloc (Nat.le_refl _) _
      have e0 : W1.cell? ⟨Z, 0, none⟩ = some (.int .i64 x.mn) := by rw [hW1, hZ]; go_simp
      have e1 : W1.cell? ⟨Z, 1, none⟩ = some (.int .i64 x.en) := by rw [hW1, hZ]; go_simp
      have HW1 := Lib.hid (And.intro hW1.symm hZ.symm)
      have HW2 := Lib.hid (below_then HW.out hb1)
      have HBL := Lib.hid (HBL.out.keep hb1)
      clear hW1 hZ hb1
      go_upto_region 5 with (fail)
      rw [HW1.out.1, HW1.out.2]
      clear HW1 hc0 hc1
      have hlZ : Z < W1.heap.size := World.block_lt_of_cell? _ _ e0
      go_wp2_with fail
      refine (bApplies_any b a aC nC cC aH nH cH c (some ⟨bb, off, none⟩) nS cS s x.mn W1 HBL).mono ?_
      rintro e w4 ⟨rfl, hb4⟩
      have HW3 := Lib.hid (below_then HW2.out hb4)
      have e3 := (hb4.cell (p := ⟨Z, 1, none⟩) (World.block_lt_of_cell? _ _ e1)).trans e1
      have hlZ4 : Z < w4.heap.size := World.block_lt_of_cell? _ _ e3
      obtain ⟨q, hq⟩ : ∃ q, q = appB a c x.mn := ⟨_, rfl⟩
      rw [← hq] at HRR ⊢
      clear hq hb4 e0 e1 hlZ
      cases q
      · have HR2 : Hid (enS a c s.sl = z + enS a c (s.sl.drop (i + 1))) := Lib.hid (by rw [HRR.out]; simp)
        go_wp2_with fail
        go_roundg (nS - (i + 1))
        case measure => omega
        case rel => exact ⟨i + 1, z, rfl, by go_num, by omega, by omega, by omega, by omega, HR2, HW3⟩
      · have HR2 : Hid (enS a c s.sl = (z + x.en) + enS a c (s.sl.drop (i + 1))) := Lib.hid (by rw [HRR.out, if_pos rfl]; omega)
        have hwi : IntKind.i64.wrap (z + x.en) = z + x.en := IntWalk.i64_in _ (by omega)
        go_wp2_with fail
        go_roundg (nS - (i + 1))
        case measure => omega
        case rel => exact ⟨i + 1, z + x.en, rfl, by go_num, by omega, by omega, by omega, by omega, HR2, HW3⟩
    · have hltz : ¬ (i : Int) < (nS : Int) := by omega
      have HE : Hid (z = enS a c s.sl) := Lib.hid (by rw [HR.out, List.drop_eq_nil_of_le (by have := HLN.out; omega)]; simp [enS])
      have HO : Hid (enO a c s = if timesE a.price z 1000 = 0 then some (timesV a.price z 1000) else none) := Lib.hid (by unfold enO; rw [HE.out])
      clear HR
      have p4 : wr.cell? ⟨b, 4, none⟩ = some (.int .i64 a.price) := HBL.out.p4
      have hlb : b < wr.heap.size := World.block_lt_of_cell? wr _ p4
      go_wp2_with fail
      refine (mTimes_all a.price z 1000 _).mono ?_
      rintro e w4 ⟨rfl, hb4⟩
      have HB5 := Lib.hid (below_then HW.out hb4)
      have HE3 := Lib.hid (timesE_three a.price z 1000)
      generalize timesV a.price z 1000 = sv at *
      generalize timesE a.price z 1000 = se at *
      clear hb4
      rcases HE3.out with he | he
      · subst he
        have ho : enO a c s = some sv := by rw [HO.out]; simp
        go_wp2_with fail
        refine (bMust_ok _ _).mono ?_
        rintro e w5 ⟨rfl, hw5⟩
        subst hw5
        go_wp2_with fail
        go_ret
        exact ⟨by rw [ho]; rfl, HB5.out⟩
      · have ho : enO a c s = none := by rw [HO.out, if_neg (by omega)]
        go_wp2_with fail
        refine (bMust_no _ _ _ he).mono ?_
        rintro e w5 ⟨rfl, hw5⟩
        subst hw5
        exact ⟨rfl, by first | rfl | rw [ho], HB5.out⟩
set_option maxRecDepth 100000 in
set_option maxHeartbeats 8000000 in
theorem bStart_any (b : Nat) (a : Art) (aC : Option Addr) (nC cC : Nat) (aH : Option Addr) (nH cH : Nat) (c : Cal) (aS : Option Addr) (nS cS : Nat) (s : Ses) (w : World) (HB : Hid (BlrM w b a aC nC cC aH nH cH c aS nS cS s)) : Calls Tryz.prog 72 #[.pointer (some ⟨b, 0, none⟩)] w (StPost (some (begV a c s)) w) := by
  go_enter Tryz.func72, Tryz.ntmps72
  have p10 : w.cell? ⟨b, 10, none⟩ = some (.int .i64 s.frm) := HB.out.p10
  have hlb : b < w.heap.size := World.block_lt_of_cell? w _ p10
  go_wp2_with fail
  refine (bApplies_any b a aC nC cC aH nH cH c aS nS cS s s.frm w HB).mono ?_
  rintro e w4 ⟨rfl, hb4⟩
  have HW := Lib.hid hb4
  have HBL := Lib.hid (HB.out.keep hb4)
  clear p10 hlb hb4
  have p4 : w4.cell? ⟨b, 4, none⟩ = some (.int .i64 a.price) := HBL.out.p4
  have hlb : b < w4.heap.size := World.block_lt_of_cell? w4 _ p4
  obtain ⟨q, hq⟩ : ∃ q, q = appB a c s.frm := ⟨_, rfl⟩
  rw [← hq]
  have HQ := Lib.hid hq
  clear hq
  cases q
  · have ho : begV a c s = 0 := by unfold begV; rw [← HQ.out]; rfl
    go_wp2_with fail
    go_ret
    exact ⟨by show _ = Ending.returned (.int .i64 _); rw [ho]; rfl, HW.out⟩
  · have ho : begV a c s = a.price := by unfold begV; rw [← HQ.out]; rfl
    go_wp2_with fail
    go_ret
    exact ⟨by show _ = Ending.returned (.int .i64 _); rw [ho]; rfl, HW.out⟩
set_option maxRecDepth 100000 in
set_option maxHeartbeats 8000000 in
theorem bTime_any (b : Nat) (a : Art) (aC : Option Addr) (nC cC : Nat) (aH : Option Addr) (nH cH : Nat) (c : Cal) (aS : Option Addr) (nS cS : Nat) (s : Ses) (w : World) (HB : Hid (BlrM w b a aC nC cC aH nH cH c aS nS cS s)) (hs : sesB s = true) (hfr : 0 ≤ a.free ∧ a.free ≤ 1440) : Calls Tryz.prog 74 #[.pointer (some ⟨b, 0, none⟩)] w (StPost (stretchO a c s.frm s.till) w) := by
  obtain ⟨g1', g2', g3', g4', g5', g6', g7', HSL0⟩ := sesB_iff.1 hs
  have HBD : Hid (0 ≤ s.frm ∧ s.till - s.frm ≤ 2880 ∧ s.till ≤ 1000000000) := Lib.hid (by omega)
  clear g1' g2' g3' g4' g5' g6' g7' HSL0 hs
  go_enter Tryz.func74, Tryz.ntmps74
  go_wp2_with fail
  refine region_z (S := fun w' => BlrM w' b a aC nC cC aH nH cH c aS nS cS s) [] (by kernel_rfl) (BlrM.drewN HB.out) (fun hHeld => ?_)
  refine wpAnyZ_take (i := 0) (v := .pointer (some ⟨b, 0, none⟩)) [11, 12] rfl (by kernel_rfl) (by kernel_rfl) (by kernel_rfl) (by kernel_rfl) (fun _ _ _ h => h) (Or.inl ⟨by kernel_rfl, fun w' hSw => ?_⟩) hHeld ?_
  · clear hHeld hSw
    go_simp
  simp only [Act.put, List.getElem_toArray, List.getElem_cons_zero, List.getElem_cons_succ, List.setIfInBounds_toArray, List.set_cons_zero, List.set_cons_succ]
  refine wpAnyZ_take (i := 1) (v := .pointer (some ⟨b, 0, none⟩)) [2, 3, 4, 5, 11, 12] rfl (by kernel_rfl) (by kernel_rfl) (by kernel_rfl) (by kernel_rfl) (fun _ _ _ h => h) (Or.inl ⟨by kernel_rfl, fun w' hSw => ?_⟩) hHeld ?_
  · clear hHeld hSw
    go_simp
  simp only [Act.put, List.getElem_toArray, List.getElem_cons_zero, List.getElem_cons_succ, List.setIfInBounds_toArray, List.set_cons_zero, List.set_cons_succ]
  refine wpAnyZ_take (i := 2) (v := .pointer (some ⟨b, 0, none⟩)) [3, 4, 5, 11, 12] rfl (by kernel_rfl) (by kernel_rfl) (by kernel_rfl) (by kernel_rfl) (fun _ _ _ h => h) (Or.inl ⟨by kernel_rfl, fun w' hSw => ?_⟩) hHeld ?_
  · clear hHeld hSw
    go_simp
  simp only [Act.put, List.getElem_toArray, List.getElem_cons_zero, List.getElem_cons_succ, List.setIfInBounds_toArray, List.set_cons_zero, List.set_cons_succ]
  refine wpAnyZ_take (i := 3) (v := .pointer (some ⟨b, 10, none⟩)) [4, 5, 11, 12] rfl (by kernel_rfl) (by kernel_rfl) (by kernel_rfl) (by kernel_rfl) (fun _ _ _ h => h) (Or.inl ⟨by kernel_rfl, fun w' hSw => ?_⟩) hHeld ?_
  · clear hHeld hSw
    go_simp
  simp only [Act.put, List.getElem_toArray, List.getElem_cons_zero, List.getElem_cons_succ, List.setIfInBounds_toArray, List.set_cons_zero, List.set_cons_succ]
  refine wpAnyZ_take (i := 4) (v := .pointer (some ⟨b, 10, none⟩)) [5, 11, 12] rfl (by kernel_rfl) (by kernel_rfl) (by kernel_rfl) (by kernel_rfl) (fun _ _ _ h => h) (Or.inl ⟨by kernel_rfl, fun w' hSw => ?_⟩) hHeld ?_
  · clear hHeld hSw
    go_simp
  simp only [Act.put, List.getElem_toArray, List.getElem_cons_zero, List.getElem_cons_succ, List.setIfInBounds_toArray, List.set_cons_zero, List.set_cons_succ]
  refine wpAnyZ_take (i := 5) (v := .int .i64 s.frm) [11, 12] rfl (by kernel_rfl) (by kernel_rfl) (by kernel_rfl) (by kernel_rfl) (fun _ _ _ h => h) (Or.inl ⟨by kernel_rfl, fun w' hSw => ?_⟩) hHeld ?_
  · have p10 := hSw.p10
    clear hHeld
    go_simp
  simp only [Act.put, List.getElem_toArray, List.getElem_cons_zero, List.getElem_cons_succ, List.setIfInBounds_toArray, List.set_cons_zero, List.set_cons_succ]
  refine wpAnyZ_take (i := 6) (v := .pointer (some ⟨b, 0, none⟩)) [7, 8, 9, 10, 11, 12] rfl (by kernel_rfl) (by kernel_rfl) (by kernel_rfl) (by kernel_rfl) (fun _ _ _ h => h) (Or.inl ⟨by kernel_rfl, fun w' hSw => ?_⟩) hHeld ?_
  · clear hHeld hSw
    go_simp
  simp only [Act.put, List.getElem_toArray, List.getElem_cons_zero, List.getElem_cons_succ, List.setIfInBounds_toArray, List.set_cons_zero, List.set_cons_succ]
  refine wpAnyZ_take (i := 7) (v := .pointer (some ⟨b, 0, none⟩)) [8, 9, 10, 11, 12] rfl (by kernel_rfl) (by kernel_rfl) (by kernel_rfl) (by kernel_rfl) (fun _ _ _ h => h) (Or.inl ⟨by kernel_rfl, fun w' hSw => ?_⟩) hHeld ?_
  · clear hHeld hSw
    go_simp
  simp only [Act.put, List.getElem_toArray, List.getElem_cons_zero, List.getElem_cons_succ, List.setIfInBounds_toArray, List.set_cons_zero, List.set_cons_succ]
  refine wpAnyZ_take (i := 8) (v := .pointer (some ⟨b, 10, none⟩)) [9, 10, 11, 12] rfl (by kernel_rfl) (by kernel_rfl) (by kernel_rfl) (by kernel_rfl) (fun _ _ _ h => h) (Or.inl ⟨by kernel_rfl, fun w' hSw => ?_⟩) hHeld ?_
  · clear hHeld hSw
    go_simp
  simp only [Act.put, List.getElem_toArray, List.getElem_cons_zero, List.getElem_cons_succ, List.setIfInBounds_toArray, List.set_cons_zero, List.set_cons_succ]
  refine wpAnyZ_take (i := 9) (v := .pointer (some ⟨b, 11, none⟩)) [10, 11, 12] rfl (by kernel_rfl) (by kernel_rfl) (by kernel_rfl) (by kernel_rfl) (fun _ _ _ h => h) (Or.inl ⟨by kernel_rfl, fun w' hSw => ?_⟩) hHeld ?_
  · clear hHeld hSw
    go_simp
  simp only [Act.put, List.getElem_toArray, List.getElem_cons_zero, List.getElem_cons_succ, List.setIfInBounds_toArray, List.set_cons_zero, List.set_cons_succ]
  refine wpAnyZ_take (i := 10) (v := .int .i64 s.till) [11, 12] rfl (by kernel_rfl) (by kernel_rfl) (by kernel_rfl) (by kernel_rfl) (fun _ _ _ h => h) (Or.inl ⟨by kernel_rfl, fun w' hSw => ?_⟩) hHeld ?_
  · have p11 := hSw.p11
    clear hHeld
    go_simp
  simp only [Act.put, List.getElem_toArray, List.getElem_cons_zero, List.getElem_cons_succ, List.setIfInBounds_toArray, List.set_cons_zero, List.set_cons_succ]
  refine wpAnyZ_one (i := 11) (by kernel_rfl) rfl (fun K' hK => ?_)
  go_simp
  refine (bStretch_any b a aC nC cC aH nH cH c aS nS cS s s.frm s.till _ (Lib.hid hHeld) HBD.out.1 HBD.out.2.1 HBD.out.2.2 hfr).mono ?_
  rintro e w4 ⟨he, hb4⟩
  have HW : Hid (Below w.heap.size w w4) := Lib.hid (below_of_drew' hb4)
  have HO : Hid (stretchO a c s.frm s.till = stretchO a c s.frm s.till) := Lib.hid rfl
  cases ho : stretchO a c s.frm s.till with
  | none =>
    rw [ho] at he
    subst he
    exact ⟨rfl, by first | rfl | rw [ho], HW.out⟩
  | some sv =>
    rw [ho] at he
    have HOO := Lib.hid ho
    subst he
    refine hK.out _ _ ?_ (fun hHeld' => ?_)
    · exact hHeld.keep hb4
    clear hK K' hHeld hb4 ho
    have hHeld := hHeld'
    clear hHeld'
    try simp only [Act.put, List.getElem_toArray, List.getElem_cons_zero, List.getElem_cons_succ, List.setIfInBounds_toArray, List.set_cons_zero, List.set_cons_succ]
    refine wpAnyZ_take (i := 12) (v := .int .i64 sv) [] rfl (by kernel_rfl) (by kernel_rfl) (by kernel_rfl) (by kernel_rfl) (fun _ _ _ h => h) (Or.inl ⟨by kernel_rfl, fun w' hSw => ?_⟩) hHeld ?_
    · clear hHeld hSw
      go_simp
    simp only [Act.put, List.getElem_toArray, List.getElem_cons_zero, List.getElem_cons_succ, List.setIfInBounds_toArray, List.set_cons_zero, List.set_cons_succ]
    refine wpAnyZ_done (by kernel_rfl) ?_ _
    go_step
    go_step
    go_wp2_with fail
    go_ret
    exact ⟨by rw [HOO.out]; rfl, HW.out⟩
set_option maxRecDepth 100000 in
set_option maxHeartbeats 8000000 in
theorem bIdle_any (b : Nat) (a : Art) (aC : Option Addr) (nC cC : Nat) (aH : Option Addr) (nH cH : Nat) (c : Cal) (aS : Option Addr) (nS cS : Nat) (s : Ses) (w : World) (HB : Hid (BlrM w b a aC nC cC aH nH cH c aS nS cS s)) (hs : sesB s = true) (hfr : 0 ≤ a.free ∧ a.free ≤ 1440) : Calls Tryz.prog 75 #[.pointer (some ⟨b, 0, none⟩)] w (StPost (stretchO a c s.fin s.till) w) := by
  obtain ⟨g1', g2', g3', g4', g5', g6', g7', HSL0⟩ := sesB_iff.1 hs
  have HBD : Hid (0 ≤ s.fin ∧ s.till - s.fin ≤ 2880 ∧ s.till ≤ 1000000000) := Lib.hid (by omega)
  clear g1' g2' g3' g4' g5' g6' g7' HSL0 hs
  go_enter Tryz.func75, Tryz.ntmps75
  go_wp2_with fail
  refine region_z (S := fun w' => BlrM w' b a aC nC cC aH nH cH c aS nS cS s) [] (by kernel_rfl) (BlrM.drewN HB.out) (fun hHeld => ?_)
  refine wpAnyZ_take (i := 0) (v := .pointer (some ⟨b, 0, none⟩)) [11, 12] rfl (by kernel_rfl) (by kernel_rfl) (by kernel_rfl) (by kernel_rfl) (fun _ _ _ h => h) (Or.inl ⟨by kernel_rfl, fun w' hSw => ?_⟩) hHeld ?_
  · clear hHeld hSw
    go_simp
  simp only [Act.put, List.getElem_toArray, List.getElem_cons_zero, List.getElem_cons_succ, List.setIfInBounds_toArray, List.set_cons_zero, List.set_cons_succ]
  refine wpAnyZ_take (i := 1) (v := .pointer (some ⟨b, 0, none⟩)) [2, 3, 4, 5, 11, 12] rfl (by kernel_rfl) (by kernel_rfl) (by kernel_rfl) (by kernel_rfl) (fun _ _ _ h => h) (Or.inl ⟨by kernel_rfl, fun w' hSw => ?_⟩) hHeld ?_
  · clear hHeld hSw
    go_simp
  simp only [Act.put, List.getElem_toArray, List.getElem_cons_zero, List.getElem_cons_succ, List.setIfInBounds_toArray, List.set_cons_zero, List.set_cons_succ]
  refine wpAnyZ_take (i := 2) (v := .pointer (some ⟨b, 0, none⟩)) [3, 4, 5, 11, 12] rfl (by kernel_rfl) (by kernel_rfl) (by kernel_rfl) (by kernel_rfl) (fun _ _ _ h => h) (Or.inl ⟨by kernel_rfl, fun w' hSw => ?_⟩) hHeld ?_
  · clear hHeld hSw
    go_simp
  simp only [Act.put, List.getElem_toArray, List.getElem_cons_zero, List.getElem_cons_succ, List.setIfInBounds_toArray, List.set_cons_zero, List.set_cons_succ]
  refine wpAnyZ_take (i := 3) (v := .pointer (some ⟨b, 10, none⟩)) [4, 5, 11, 12] rfl (by kernel_rfl) (by kernel_rfl) (by kernel_rfl) (by kernel_rfl) (fun _ _ _ h => h) (Or.inl ⟨by kernel_rfl, fun w' hSw => ?_⟩) hHeld ?_
  · clear hHeld hSw
    go_simp
  simp only [Act.put, List.getElem_toArray, List.getElem_cons_zero, List.getElem_cons_succ, List.setIfInBounds_toArray, List.set_cons_zero, List.set_cons_succ]
  refine wpAnyZ_take (i := 4) (v := .pointer (some ⟨b, 12, none⟩)) [5, 11, 12] rfl (by kernel_rfl) (by kernel_rfl) (by kernel_rfl) (by kernel_rfl) (fun _ _ _ h => h) (Or.inl ⟨by kernel_rfl, fun w' hSw => ?_⟩) hHeld ?_
  · clear hHeld hSw
    go_simp
  simp only [Act.put, List.getElem_toArray, List.getElem_cons_zero, List.getElem_cons_succ, List.setIfInBounds_toArray, List.set_cons_zero, List.set_cons_succ]
  refine wpAnyZ_take (i := 5) (v := .int .i64 s.fin) [11, 12] rfl (by kernel_rfl) (by kernel_rfl) (by kernel_rfl) (by kernel_rfl) (fun _ _ _ h => h) (Or.inl ⟨by kernel_rfl, fun w' hSw => ?_⟩) hHeld ?_
  · have p12 := hSw.p12
    clear hHeld
    go_simp
  simp only [Act.put, List.getElem_toArray, List.getElem_cons_zero, List.getElem_cons_succ, List.setIfInBounds_toArray, List.set_cons_zero, List.set_cons_succ]
  refine wpAnyZ_take (i := 6) (v := .pointer (some ⟨b, 0, none⟩)) [7, 8, 9, 10, 11, 12] rfl (by kernel_rfl) (by kernel_rfl) (by kernel_rfl) (by kernel_rfl) (fun _ _ _ h => h) (Or.inl ⟨by kernel_rfl, fun w' hSw => ?_⟩) hHeld ?_
  · clear hHeld hSw
    go_simp
  simp only [Act.put, List.getElem_toArray, List.getElem_cons_zero, List.getElem_cons_succ, List.setIfInBounds_toArray, List.set_cons_zero, List.set_cons_succ]
  refine wpAnyZ_take (i := 7) (v := .pointer (some ⟨b, 0, none⟩)) [8, 9, 10, 11, 12] rfl (by kernel_rfl) (by kernel_rfl) (by kernel_rfl) (by kernel_rfl) (fun _ _ _ h => h) (Or.inl ⟨by kernel_rfl, fun w' hSw => ?_⟩) hHeld ?_
  · clear hHeld hSw
    go_simp
  simp only [Act.put, List.getElem_toArray, List.getElem_cons_zero, List.getElem_cons_succ, List.setIfInBounds_toArray, List.set_cons_zero, List.set_cons_succ]
  refine wpAnyZ_take (i := 8) (v := .pointer (some ⟨b, 10, none⟩)) [9, 10, 11, 12] rfl (by kernel_rfl) (by kernel_rfl) (by kernel_rfl) (by kernel_rfl) (fun _ _ _ h => h) (Or.inl ⟨by kernel_rfl, fun w' hSw => ?_⟩) hHeld ?_
  · clear hHeld hSw
    go_simp
  simp only [Act.put, List.getElem_toArray, List.getElem_cons_zero, List.getElem_cons_succ, List.setIfInBounds_toArray, List.set_cons_zero, List.set_cons_succ]
  refine wpAnyZ_take (i := 9) (v := .pointer (some ⟨b, 11, none⟩)) [10, 11, 12] rfl (by kernel_rfl) (by kernel_rfl) (by kernel_rfl) (by kernel_rfl) (fun _ _ _ h => h) (Or.inl ⟨by kernel_rfl, fun w' hSw => ?_⟩) hHeld ?_
  · clear hHeld hSw
    go_simp
  simp only [Act.put, List.getElem_toArray, List.getElem_cons_zero, List.getElem_cons_succ, List.setIfInBounds_toArray, List.set_cons_zero, List.set_cons_succ]
  refine wpAnyZ_take (i := 10) (v := .int .i64 s.till) [11, 12] rfl (by kernel_rfl) (by kernel_rfl) (by kernel_rfl) (by kernel_rfl) (fun _ _ _ h => h) (Or.inl ⟨by kernel_rfl, fun w' hSw => ?_⟩) hHeld ?_
  · have p11 := hSw.p11
    clear hHeld
    go_simp
  simp only [Act.put, List.getElem_toArray, List.getElem_cons_zero, List.getElem_cons_succ, List.setIfInBounds_toArray, List.set_cons_zero, List.set_cons_succ]
  refine wpAnyZ_one (i := 11) (by kernel_rfl) rfl (fun K' hK => ?_)
  go_simp
  refine (bStretch_any b a aC nC cC aH nH cH c aS nS cS s s.fin s.till _ (Lib.hid hHeld) HBD.out.1 HBD.out.2.1 HBD.out.2.2 hfr).mono ?_
  rintro e w4 ⟨he, hb4⟩
  have HW : Hid (Below w.heap.size w w4) := Lib.hid (below_of_drew' hb4)
  have HO : Hid (stretchO a c s.fin s.till = stretchO a c s.fin s.till) := Lib.hid rfl
  cases ho : stretchO a c s.fin s.till with
  | none =>
    rw [ho] at he
    subst he
    exact ⟨rfl, by first | rfl | rw [ho], HW.out⟩
  | some sv =>
    rw [ho] at he
    have HOO := Lib.hid ho
    subst he
    refine hK.out _ _ ?_ (fun hHeld' => ?_)
    · exact hHeld.keep hb4
    clear hK K' hHeld hb4 ho
    have hHeld := hHeld'
    clear hHeld'
    try simp only [Act.put, List.getElem_toArray, List.getElem_cons_zero, List.getElem_cons_succ, List.setIfInBounds_toArray, List.set_cons_zero, List.set_cons_succ]
    refine wpAnyZ_take (i := 12) (v := .int .i64 sv) [] rfl (by kernel_rfl) (by kernel_rfl) (by kernel_rfl) (by kernel_rfl) (fun _ _ _ h => h) (Or.inl ⟨by kernel_rfl, fun w' hSw => ?_⟩) hHeld ?_
    · clear hHeld hSw
      go_simp
    simp only [Act.put, List.getElem_toArray, List.getElem_cons_zero, List.getElem_cons_succ, List.setIfInBounds_toArray, List.set_cons_zero, List.set_cons_succ]
    refine wpAnyZ_done (by kernel_rfl) ?_ _
    go_step
    go_step
    go_wp2_with fail
    go_ret
    exact ⟨by rw [HOO.out]; rfl, HW.out⟩
theorem cf_bStart (args : Array Value) (W : World) : (callFunc 72 args).run Tryz.prog W = .ok (.enter 72 args) W := by go_simp
theorem cf_bEnergy (args : Array Value) (W : World) : (callFunc 73 args).run Tryz.prog W = .ok (.enter 73 args) W := by go_simp
theorem cf_bTime (args : Array Value) (W : World) : (callFunc 74 args).run Tryz.prog W = .ok (.enter 74 args) W := by go_simp
theorem cf_bIdle (args : Array Value) (W : World) : (callFunc 75 args).run Tryz.prog W = .ok (.enter 75 args) W := by go_simp
set_option maxRecDepth 100000 in
set_option maxHeartbeats 8000000 in
theorem bCosts_any (b : Nat) (a : Art) (aC : Option Addr) (nC cC : Nat) (aH : Option Addr) (nH cH : Nat) (c : Cal) (aS : Option Addr) (nS cS : Nat) (s : Ses) (w : World) (HB : Hid (BlrM w b a aC nC cC aH nH cH c aS nS cS s)) (hs : sesB s = true) (ha : artB a = true) (hk : a.kind = 1 ∨ a.kind = 2 ∨ a.kind = 3 ∨ a.kind = 4) : Calls Tryz.prog 41 #[.pointer (some ⟨b, 0, none⟩)] w fun e w' => ∃ FA : Nat, e = .returned (.func (.func FA) #[.pointer (some ⟨b, 0, none⟩)] #[]) ∧ w' = w ∧
    (∀ (args : Array Value) (W : World), (callFunc FA args).run Tryz.prog W = .ok (.enter FA args) W) ∧ ∀ W, BlrM W b a aC nC cC aH nH cH c aS nS cS s → Calls Tryz.prog FA #[.pointer (some ⟨b, 0, none⟩)] W (StPost (lineO a c s) W) := by
  have p0 : w.cell? ⟨b, 0, none⟩ = some (.int .i64 a.kind) := HB.out.p0
  have hlb : b < w.heap.size := World.block_lt_of_cell? w _ p0
  go_enter Tryz.func41, Tryz.ntmps41
  have HK := Lib.hid hk
  obtain ⟨kd, hkd⟩ : ∃ kd, kd = a.kind := ⟨_, rfl⟩
  rw [← hkd] at p0 HK
  have HKD := Lib.hid hkd
  clear hk hkd
  rcases HK.out with rfl | rfl | rfl | rfl
  · go_wp2_with fail
    go_ret
    refine ⟨72, by rfl, rfl, cf_bStart, fun W h => ?_⟩
    have e : lineO a c s = some (begV a c s) := by unfold lineO; rw [if_pos HKD.out.symm]; rfl
    rw [e]
    exact bStart_any b a aC nC cC aH nH cH c aS nS cS s W (Lib.hid h)
  · go_wp2_with fail
    go_ret
    refine ⟨73, by rfl, rfl, cf_bEnergy, fun W h => ?_⟩
    have e : lineO a c s = enO a c s := by unfold lineO; rw [if_neg (by rw [← HKD.out]; omega), if_pos HKD.out.symm]; rfl
    rw [e]
    exact bEnergy_any b a aC nC cC aH nH cH c aS nS cS s W (Lib.hid h) hs
  · go_wp2_with fail
    go_ret
    refine ⟨74, by rfl, rfl, cf_bTime, fun W h => ?_⟩
    have e : lineO a c s = stretchO a c s.frm s.till := by unfold lineO; rw [if_neg (by rw [← HKD.out]; omega), if_neg (by rw [← HKD.out]; omega), if_pos HKD.out.symm]
    rw [e]
    exact bTime_any b a aC nC cC aH nH cH c aS nS cS s W (Lib.hid h) hs (art_free ha (.inl HKD.out.symm))
  · go_wp2_with fail
    go_ret
    refine ⟨75, by rfl, rfl, cf_bIdle, fun W h => ?_⟩
    have e : lineO a c s = stretchO a c s.fin s.till := by unfold lineO; rw [if_neg (by rw [← HKD.out]; omega), if_neg (by rw [← HKD.out]; omega), if_neg (by rw [← HKD.out]; omega), if_pos HKD.out.symm]
    rw [e]
    exact bIdle_any b a aC nC cC aH nH cH c aS nS cS s W (Lib.hid h) hs (art_free ha (.inr HKD.out.symm))
end Go.Proofs.YtoekpdnpncgeeaaGreat
