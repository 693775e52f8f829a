/-
loophole.Split.
-/
import Derived.Test.YtoekpdnpncgeeaaGreatGLp
namespace Go.Proofs.YtoekpdnpncgeeaaGreat
open Go.RowKit
set_option linter.unusedVariables false
set_option linter.unusedSimpArgs false
theorem results_cct {P : Program} {fn : Func} {a b t : Tmp} {ty tz : TypeId} {tmps : Array Value} {x y : Nat} {u v : Value} {w : World} (h : fn.results = #[.cell a ty, .cell b tz, .tmp t]) (ha : tmps.getD a undef = .pointer (some ⟨x, 0, none⟩)) (hb : tmps.getD b undef = .pointer (some ⟨y, 0, none⟩)) (hl : (loadVar ty ⟨x, 0, none⟩).run P w = .ok u w) (hm : (loadVar tz ⟨y, 0, none⟩).run P w = .ok v w) :
    (results fn tmps).run P w = .ok (.tuple #[u, v, tmps.getD t undef]) w := by
  have ha' : tmps[a]?.getD undef = .pointer (some ⟨x, 0, none⟩) := by simpa using ha
  have hb' : tmps[b]?.getD undef = .pointer (some ⟨y, 0, none⟩) := by simpa using hb
  simp [results, h, ha', hb', hl, hm, asAddr]
theorem RdSes.mod' {M : Nat → Prop} {w w' : World} {A : Option Addr} {n : Nat} {s : Ses} (h : RdSes w A n s) (hm : Mod M w w') (hA : ∀ a, A = some a → ¬ M a.block) : RdSes w' A n s :=
  ⟨h.rs.mod hm (fun a ha _ => hA a ha), h.ls, h.lm, h.wt, h.wf⟩
/-- A session may be divided before the minute m. -/
def spB (s : Ses) (m : Int) : Bool := sesB s && (decide (s.frm < m) && decide (m < s.till))
theorem load_ses {w : World} {b : Nat} {f t e : Int} {A : Option Addr} {n c : Nat} (h : Own w b 31 4 (seF f t e (.slice A n c))) : (loadVar 31 ⟨b, 0, none⟩).run Tryz.prog w = .ok (.agg #[.int .i64 f, .int .i64 t, .int .i64 e, .slice A n c]) w := by
  have h0 : w.cell? ⟨b, 0, none⟩ = some (.int .i64 f) := h.cell (i := 0) (by omega)
  have h1 : w.cell? ⟨b, 1, none⟩ = some (.int .i64 t) := h.cell (i := 1) (by omega)
  have h2 : w.cell? ⟨b, 2, none⟩ = some (.int .i64 e) := h.cell (i := 2) (by omega)
  have h3 : w.cell? ⟨b, 3, none⟩ = some (.slice A n c) := h.cell (i := 3) (by omega)
  go_simp
/-- What Split returns. -/
def SpPost (s : Ses) (m : Int) (w : World) (e : Ending) (w' : World) : Prop :=
  (spB s m = true ∧ ∃ A An Ac B Bn Bc, e = .returned (.tuple #[.agg #[.int .i64 s.frm, .int .i64 m, .int .i64 (partS s s.frm m).fin, .slice A An Ac], .agg #[.int .i64 m, .int .i64 s.till, .int .i64 (partS s m s.till).fin, .slice B Bn Bc], .int .i64 0]) ∧ RdSes w' A An (partS s s.frm m) ∧ RdSes w' B Bn (partS s m s.till) ∧ Below w.heap.size w w' ∧ ∀ a, B = some a → w.heap.size ≤ a.block) ∨
  (spB s m = false ∧ e = .returned (.tuple #[.agg #[.int .i64 0, .int .i64 0, .int .i64 0, .slice none 0 0], .agg #[.int .i64 0, .int .i64 0, .int .i64 0, .slice none 0 0], .int .i64 1]) ∧ Below w.heap.size w w')
set_option maxRecDepth 100000 in
set_option maxHeartbeats 16000000 in
theorem lhSplit_any (aS : Option Addr) (nS cS : Nat) (s : Ses) (m : Int) (w : World) (HS : Hid (RdSes w aS nS s)) : Calls Tryz.prog 14 #[.agg #[.int .i64 s.frm, .int .i64 s.till, .int .i64 s.fin, .slice aS nS cS], .int .i64 m] w (SpPost s m w) := by
  obtain ⟨W0, hW0⟩ : ∃ W0, W0 = ((w.alloc (.cells #[.int .i64 s.frm, .int .i64 s.till, .int .i64 s.fin, .slice aS nS cS] 31)).alloc (.cells #[.int .i64 0, .int .i64 0, .int .i64 0, .slice none 0 0] 31)).alloc (.cells #[.int .i64 0, .int .i64 0, .int .i64 0, .slice none 0 0] 31) := ⟨_, rfl⟩
  obtain ⟨S, hS⟩ : ∃ S, S = w.heap.size := ⟨_, rfl⟩
  obtain ⟨R1, hR1⟩ : ∃ R, R = w.heap.size + 1 := ⟨_, rfl⟩
  obtain ⟨R2, hR2⟩ : ∃ R, R = w.heap.size + 1 + 1 := ⟨_, rfl⟩
  have HM : Hid (SesM w W0 S aS nS cS s) := Lib.hid (by rw [hW0, hS]; exact ((SesM.box (Below.refl _ _) HS.out).keep ((Below.refl _ _).alloc (Nat.le_refl _) _)).keep ((Below.refl _ _).alloc (Nat.le_refl _) _))
  have HR1 : Hid (Own W0 R1 31 4 (seF 0 0 0 (.slice none 0 0))) := Lib.hid (by rw [hW0, hR1]; exact (Own.newAt _ 31 _ _ (by simp) (n := 4) rfl (fun i hi => by match i, hi with | 0, _ => rfl | 1, _ => rfl | 2, _ => rfl | 3, _ => rfl)).alloc _)
  have HR2 : Hid (Own W0 R2 31 4 (seF 0 0 0 (.slice none 0 0))) := Lib.hid (by rw [hW0, hR2]; exact Own.newAt _ 31 _ _ (by simp) (n := 4) rfl (fun i hi => by match i, hi with | 0, _ => rfl | 1, _ => rfl | 2, _ => rfl | 3, _ => rfl))
  have HLR : Hid (S < R1 ∧ R1 < R2 ∧ w.heap.size ≤ S) := Lib.hid (by omega)
  have HW0 := Lib.hid hW0
  have HS0 := Lib.hid hS
  have HRE1 := Lib.hid hR1
  have HRE2 := Lib.hid hR2
  clear hW0 hS hR1 hR2
  go_enter Tryz.func14, Tryz.ntmps14
  go_upto_region 1 with (fail)
  try simp only [World.size_alloc]
  rw [← HW0.out, ← HRE2.out, ← HRE1.out, ← HS0.out]
  clear HW0 HRE1 HRE2 HS0
  obtain ⟨z0, z1, z2, z3⟩ : W0.cell? ⟨S, 0, none⟩ = some (.int .i64 s.frm) ∧ W0.cell? ⟨S, 1, none⟩ = some (.int .i64 s.till) ∧ W0.cell? ⟨S, 2, none⟩ = some (.int .i64 s.fin) ∧ W0.cell? ⟨S, 3, none⟩ = some (.slice aS nS cS) := ⟨HM.out.k0, HM.out.k1, HM.out.k2, HM.out.k3⟩
  have hlS : S < W0.heap.size := World.block_lt_of_cell? W0 _ z0
  obtain ⟨q, hq⟩ : ∃ q, q = sesB s := ⟨_, rfl⟩
  have HQ := Lib.hid hq
  go_wp2_with fail
  refine (bValid_any aS nS cS s W0 (Lib.hid HM.out.rd)).mono ?_
  rintro e w1 ⟨rfl, hb⟩
  rw [← hq]
  clear hq
  have HM := Lib.hid (HM.out.keep hb)
  have HR1 := Lib.hid (HR1.out.keep hb HR1.out.lt)
  have HR2 := Lib.hid (HR2.out.keep hb HR2.out.lt)
  clear hb z0 z1 z2 z3 hlS
  obtain ⟨z0, z1, z2, z3⟩ : w1.cell? ⟨S, 0, none⟩ = some (.int .i64 s.frm) ∧ w1.cell? ⟨S, 1, none⟩ = some (.int .i64 s.till) ∧ w1.cell? ⟨S, 2, none⟩ = some (.int .i64 s.fin) ∧ w1.cell? ⟨S, 3, none⟩ = some (.slice aS nS cS) := ⟨HM.out.k0, HM.out.k1, HM.out.k2, HM.out.k3⟩
  have hlS : S < w1.heap.size := World.block_lt_of_cell? w1 _ z0
  cases q
  · have HFB : Hid (spB s m = false) := Lib.hid (by unfold spB; rw [← HQ.out]; rfl)
    have hne : ¬ R1 = R2 := by have := HLR.out; omega
    have hne2 : ¬ R2 = R1 := by have := HLR.out; omega
    have HZR1 := HR1
    have HZR2 := HR2
    have y0R1 : w1.cell? ⟨R1, 0, none⟩ = some (.int .i64 0) := HZR1.out.cell (i := 0) (by omega)
    have f0R1 := HZR1.out.frozen 0
    have y1R1 : w1.cell? ⟨R1, 1, none⟩ = some (.int .i64 0) := HZR1.out.cell (i := 1) (by omega)
    have f1R1 := HZR1.out.frozen 1
    have y2R1 : w1.cell? ⟨R1, 2, none⟩ = some (.int .i64 0) := HZR1.out.cell (i := 2) (by omega)
    have f2R1 := HZR1.out.frozen 2
    have y3R1 : w1.cell? ⟨R1, 3, none⟩ = some (.slice none 0 0) := HZR1.out.cell (i := 3) (by omega)
    have f3R1 := HZR1.out.frozen 3
    have hlR1 : R1 < w1.heap.size := HZR1.out.lt
    have y0R2 : w1.cell? ⟨R2, 0, none⟩ = some (.int .i64 0) := HZR2.out.cell (i := 0) (by omega)
    have f0R2 := HZR2.out.frozen 0
    have y1R2 : w1.cell? ⟨R2, 1, none⟩ = some (.int .i64 0) := HZR2.out.cell (i := 1) (by omega)
    have f1R2 := HZR2.out.frozen 1
    have y2R2 : w1.cell? ⟨R2, 2, none⟩ = some (.int .i64 0) := HZR2.out.cell (i := 2) (by omega)
    have f2R2 := HZR2.out.frozen 2
    have y3R2 : w1.cell? ⟨R2, 3, none⟩ = some (.slice none 0 0) := HZR2.out.cell (i := 3) (by omega)
    have f3R2 := HZR2.out.frozen 3
    have hlR2 : R2 < w1.heap.size := HZR2.out.lt
    go_wp2_with fail
    obtain ⟨w2, hw2⟩ : ∃ W, W = ((((w1.setCell ⟨R1, 0, none⟩ (.int .i64 0)).setCell ⟨R1, 1, none⟩ (.int .i64 0)).setCell ⟨R1, 2, none⟩ (.int .i64 0)).setCell ⟨R1, 3, none⟩ (.slice none 0 0)) := ⟨_, rfl⟩
    obtain ⟨w3, hw3⟩ : ∃ W, W = ((((w2.setCell ⟨R2, 0, none⟩ (.int .i64 0)).setCell ⟨R2, 1, none⟩ (.int .i64 0)).setCell ⟨R2, 2, none⟩ (.int .i64 0)).setCell ⟨R2, 3, none⟩ (.slice none 0 0)) := ⟨_, rfl⟩
    have HV1 : Hid (Own w2 R1 31 4 (seF 0 0 0 (.slice none 0 0))) := Lib.hid (by rw [hw2]; exact ((((HZR1.out.set 0 _).set 1 _).set 2 _).set 3 _).congr (fun i hi => by match i, hi with | 0, _ => rfl | 1, _ => rfl | 2, _ => rfl | 3, _ => rfl))
    have HM1 : Mod (fun j => j = R1) w1 w2 := by rw [hw2]; exact modQ4 _ _ _ _ _ _
    have HZ2 := Lib.hid (HZR2.out.mod HM1 (by have := HLR.out; omega))
    have HV2 : Hid (Own w3 R2 31 4 (seF 0 0 0 (.slice none 0 0))) := Lib.hid (by rw [hw3]; exact ((((HZ2.out.set 0 _).set 1 _).set 2 _).set 3 _).congr (fun i hi => by match i, hi with | 0, _ => rfl | 1, _ => rfl | 2, _ => rfl | 3, _ => rfl))
    have HM2 : Mod (fun j => j = R2) w2 w3 := by rw [hw3]; exact modQ4 _ _ _ _ _ _
    have HV1' := HV1.out.mod HM2 (by have := HLR.out; omega)
    rw [← hw2, ← hw3]
    refine bodyPost_ret (results_cct (a := 4) (b := 5) (t := 6) (ty := 31) (tz := 31) (x := R1) (y := R2) (by kernel_rfl) rfl rfl (load_ses HV1') (load_ses HV2.out)) rfl ?_
    exact .inr ⟨HFB.out, rfl, ((((show Mod (fun j => R1 ≤ j) w w1 from (Mod.of_below HM.out.bel).mono (fun j hj h => by omega)).trans (HM1.mono (fun j _ h => by omega))).trans (HM2.mono (fun j _ h => by have := HLR.out; omega))).below (Nat.le_refl _) (fun j h1 h2 => by have := HLR.out; omega))⟩
  · by_cases h1 : m ≤ s.frm
    · have HFB : Hid (spB s m = false) := Lib.hid (by unfold spB; rw [show decide (s.frm < m) = false from decide_eq_false (by omega)]; simp)
      have h1d : decide (m ≤ s.frm) = true := decide_eq_true h1
      have hne : ¬ R1 = R2 := by have := HLR.out; omega
      have hne2 : ¬ R2 = R1 := by have := HLR.out; omega
      have HZR1 := HR1
      have HZR2 := HR2
      have y0R1 : w1.cell? ⟨R1, 0, none⟩ = some (.int .i64 0) := HZR1.out.cell (i := 0) (by omega)
      have f0R1 := HZR1.out.frozen 0
      have y1R1 : w1.cell? ⟨R1, 1, none⟩ = some (.int .i64 0) := HZR1.out.cell (i := 1) (by omega)
      have f1R1 := HZR1.out.frozen 1
      have y2R1 : w1.cell? ⟨R1, 2, none⟩ = some (.int .i64 0) := HZR1.out.cell (i := 2) (by omega)
      have f2R1 := HZR1.out.frozen 2
      have y3R1 : w1.cell? ⟨R1, 3, none⟩ = some (.slice none 0 0) := HZR1.out.cell (i := 3) (by omega)
      have f3R1 := HZR1.out.frozen 3
      have hlR1 : R1 < w1.heap.size := HZR1.out.lt
      have y0R2 : w1.cell? ⟨R2, 0, none⟩ = some (.int .i64 0) := HZR2.out.cell (i := 0) (by omega)
      have f0R2 := HZR2.out.frozen 0
      have y1R2 : w1.cell? ⟨R2, 1, none⟩ = some (.int .i64 0) := HZR2.out.cell (i := 1) (by omega)
      have f1R2 := HZR2.out.frozen 1
      have y2R2 : w1.cell? ⟨R2, 2, none⟩ = some (.int .i64 0) := HZR2.out.cell (i := 2) (by omega)
      have f2R2 := HZR2.out.frozen 2
      have y3R2 : w1.cell? ⟨R2, 3, none⟩ = some (.slice none 0 0) := HZR2.out.cell (i := 3) (by omega)
      have f3R2 := HZR2.out.frozen 3
      have hlR2 : R2 < w1.heap.size := HZR2.out.lt
      go_wp2_with fail
      obtain ⟨w2, hw2⟩ : ∃ W, W = ((((w1.setCell ⟨R1, 0, none⟩ (.int .i64 0)).setCell ⟨R1, 1, none⟩ (.int .i64 0)).setCell ⟨R1, 2, none⟩ (.int .i64 0)).setCell ⟨R1, 3, none⟩ (.slice none 0 0)) := ⟨_, rfl⟩
      obtain ⟨w3, hw3⟩ : ∃ W, W = ((((w2.setCell ⟨R2, 0, none⟩ (.int .i64 0)).setCell ⟨R2, 1, none⟩ (.int .i64 0)).setCell ⟨R2, 2, none⟩ (.int .i64 0)).setCell ⟨R2, 3, none⟩ (.slice none 0 0)) := ⟨_, rfl⟩
      have HV1 : Hid (Own w2 R1 31 4 (seF 0 0 0 (.slice none 0 0))) := Lib.hid (by rw [hw2]; exact ((((HZR1.out.set 0 _).set 1 _).set 2 _).set 3 _).congr (fun i hi => by match i, hi with | 0, _ => rfl | 1, _ => rfl | 2, _ => rfl | 3, _ => rfl))
      have HM1 : Mod (fun j => j = R1) w1 w2 := by rw [hw2]; exact modQ4 _ _ _ _ _ _
      have HZ2 := Lib.hid (HZR2.out.mod HM1 (by have := HLR.out; omega))
      have HV2 : Hid (Own w3 R2 31 4 (seF 0 0 0 (.slice none 0 0))) := Lib.hid (by rw [hw3]; exact ((((HZ2.out.set 0 _).set 1 _).set 2 _).set 3 _).congr (fun i hi => by match i, hi with | 0, _ => rfl | 1, _ => rfl | 2, _ => rfl | 3, _ => rfl))
      have HM2 : Mod (fun j => j = R2) w2 w3 := by rw [hw3]; exact modQ4 _ _ _ _ _ _
      have HV1' := HV1.out.mod HM2 (by have := HLR.out; omega)
      rw [← hw2, ← hw3]
      refine bodyPost_ret (results_cct (a := 4) (b := 5) (t := 6) (ty := 31) (tz := 31) (x := R1) (y := R2) (by kernel_rfl) rfl rfl (load_ses HV1') (load_ses HV2.out)) rfl ?_
      exact .inr ⟨HFB.out, rfl, ((((show Mod (fun j => R1 ≤ j) w w1 from (Mod.of_below HM.out.bel).mono (fun j hj h => by omega)).trans (HM1.mono (fun j _ h => by omega))).trans (HM2.mono (fun j _ h => by have := HLR.out; omega))).below (Nat.le_refl _) (fun j h1 h2 => by have := HLR.out; omega))⟩
    · by_cases h2 : s.till ≤ m
      · have HFB : Hid (spB s m = false) := Lib.hid (by unfold spB; rw [show decide (m < s.till) = false from decide_eq_false (by omega)]; simp)
        have h1d : decide (m ≤ s.frm) = false := decide_eq_false h1
        have h2d : decide (s.till ≤ m) = true := decide_eq_true h2
        have hne : ¬ R1 = R2 := by have := HLR.out; omega
        have hne2 : ¬ R2 = R1 := by have := HLR.out; omega
        have HZR1 := HR1
        have HZR2 := HR2
        have y0R1 : w1.cell? ⟨R1, 0, none⟩ = some (.int .i64 0) := HZR1.out.cell (i := 0) (by omega)
        have f0R1 := HZR1.out.frozen 0
        have y1R1 : w1.cell? ⟨R1, 1, none⟩ = some (.int .i64 0) := HZR1.out.cell (i := 1) (by omega)
        have f1R1 := HZR1.out.frozen 1
        have y2R1 : w1.cell? ⟨R1, 2, none⟩ = some (.int .i64 0) := HZR1.out.cell (i := 2) (by omega)
        have f2R1 := HZR1.out.frozen 2
        have y3R1 : w1.cell? ⟨R1, 3, none⟩ = some (.slice none 0 0) := HZR1.out.cell (i := 3) (by omega)
        have f3R1 := HZR1.out.frozen 3
        have hlR1 : R1 < w1.heap.size := HZR1.out.lt
        have y0R2 : w1.cell? ⟨R2, 0, none⟩ = some (.int .i64 0) := HZR2.out.cell (i := 0) (by omega)
        have f0R2 := HZR2.out.frozen 0
        have y1R2 : w1.cell? ⟨R2, 1, none⟩ = some (.int .i64 0) := HZR2.out.cell (i := 1) (by omega)
        have f1R2 := HZR2.out.frozen 1
        have y2R2 : w1.cell? ⟨R2, 2, none⟩ = some (.int .i64 0) := HZR2.out.cell (i := 2) (by omega)
        have f2R2 := HZR2.out.frozen 2
        have y3R2 : w1.cell? ⟨R2, 3, none⟩ = some (.slice none 0 0) := HZR2.out.cell (i := 3) (by omega)
        have f3R2 := HZR2.out.frozen 3
        have hlR2 : R2 < w1.heap.size := HZR2.out.lt
        go_wp2_with fail
        obtain ⟨w2, hw2⟩ : ∃ W, W = ((((w1.setCell ⟨R1, 0, none⟩ (.int .i64 0)).setCell ⟨R1, 1, none⟩ (.int .i64 0)).setCell ⟨R1, 2, none⟩ (.int .i64 0)).setCell ⟨R1, 3, none⟩ (.slice none 0 0)) := ⟨_, rfl⟩
        obtain ⟨w3, hw3⟩ : ∃ W, W = ((((w2.setCell ⟨R2, 0, none⟩ (.int .i64 0)).setCell ⟨R2, 1, none⟩ (.int .i64 0)).setCell ⟨R2, 2, none⟩ (.int .i64 0)).setCell ⟨R2, 3, none⟩ (.slice none 0 0)) := ⟨_, rfl⟩
        have HV1 : Hid (Own w2 R1 31 4 (seF 0 0 0 (.slice none 0 0))) := Lib.hid (by rw [hw2]; exact ((((HZR1.out.set 0 _).set 1 _).set 2 _).set 3 _).congr (fun i hi => by match i, hi with | 0, _ => rfl | 1, _ => rfl | 2, _ => rfl | 3, _ => rfl))
        have HM1 : Mod (fun j => j = R1) w1 w2 := by rw [hw2]; exact modQ4 _ _ _ _ _ _
        have HZ2 := Lib.hid (HZR2.out.mod HM1 (by have := HLR.out; omega))
        have HV2 : Hid (Own w3 R2 31 4 (seF 0 0 0 (.slice none 0 0))) := Lib.hid (by rw [hw3]; exact ((((HZ2.out.set 0 _).set 1 _).set 2 _).set 3 _).congr (fun i hi => by match i, hi with | 0, _ => rfl | 1, _ => rfl | 2, _ => rfl | 3, _ => rfl))
        have HM2 : Mod (fun j => j = R2) w2 w3 := by rw [hw3]; exact modQ4 _ _ _ _ _ _
        have HV1' := HV1.out.mod HM2 (by have := HLR.out; omega)
        rw [← hw2, ← hw3]
        refine bodyPost_ret (results_cct (a := 4) (b := 5) (t := 6) (ty := 31) (tz := 31) (x := R1) (y := R2) (by kernel_rfl) rfl rfl (load_ses HV1') (load_ses HV2.out)) rfl ?_
        exact .inr ⟨HFB.out, rfl, ((((show Mod (fun j => R1 ≤ j) w w1 from (Mod.of_below HM.out.bel).mono (fun j hj h => by omega)).trans (HM1.mono (fun j _ h => by omega))).trans (HM2.mono (fun j _ h => by have := HLR.out; omega))).below (Nat.le_refl _) (fun j h1 h2 => by have := HLR.out; omega))⟩
      · have HFB : Hid (spB s m = true) := Lib.hid (by unfold spB; rw [← HQ.out, decide_eq_true (show s.frm < m by omega), decide_eq_true (show m < s.till by omega)]; rfl)
        have h1d : decide (m ≤ s.frm) = false := decide_eq_false h1
        have h2d : decide (s.till ≤ m) = false := decide_eq_false h2
        have HBD : Hid (s.frm ≤ 52560000 ∧ s.till ≤ 52560000 ∧ m ≤ 52560000) := Lib.hid (by
          have h := HQ.out.symm
          unfold sesB at h
          simp only [Bool.and_eq_true, decide_eq_true_eq] at h
          omega)
        have HNS : Hid (nS ≤ 48) := Lib.hid (by
          have h := HQ.out.symm
          unfold sesB at h
          simp only [Bool.and_eq_true, decide_eq_true_eq] at h
          have := HS.out.ls
          omega)
        go_upto_region 3 with (fail)
        refine region_z (S := fun w' => SesM w w' S aS nS cS s) [] (by kernel_rfl) (HM.out.keep (below_drewG' (Below.refl _ _))) (fun hHeld => ?_)
        refine wpAnyZ_take (i := 0) (v := .agg #[.int .i64 s.frm, .int .i64 s.till, .int .i64 s.fin, .slice aS nS cS]) [] rfl (by kernel_rfl) (by kernel_rfl) (by kernel_rfl) (by kernel_rfl) (fun _ _ _ h => h) (Or.inl ⟨by kernel_rfl, fun w' hSw => ?_⟩) hHeld ?_
        · have hM := hSw
          obtain ⟨q0, q1, q2, q3⟩ : w'.cell? ⟨S, 0, none⟩ = some (.int .i64 s.frm) ∧ w'.cell? ⟨S, 1, none⟩ = some (.int .i64 s.till) ∧ w'.cell? ⟨S, 2, none⟩ = some (.int .i64 s.fin) ∧ w'.cell? ⟨S, 3, none⟩ = some (.slice aS nS cS) := ⟨hM.k0, hM.k1, hM.k2, hM.k3⟩
          have hq : S < w'.heap.size := World.block_lt_of_cell? _ _ q0
          clear hM
          clear hHeld hSw
          go_simp
        simp only [Act.put, List.getElem_toArray, List.getElem_cons_zero, List.getElem_cons_succ, List.setIfInBounds_toArray, List.set_cons_zero, List.set_cons_succ]
        refine wpAnyZ_take (i := 1) (v := .pointer (some ⟨S, 0, none⟩)) [] rfl (by kernel_rfl) (by kernel_rfl) (by kernel_rfl) (by kernel_rfl) (fun _ _ _ h => h) (Or.inl ⟨by kernel_rfl, fun w' hSw => ?_⟩) hHeld ?_
        · have hM := hSw
          obtain ⟨q0, q1, q2, q3⟩ : w'.cell? ⟨S, 0, none⟩ = some (.int .i64 s.frm) ∧ w'.cell? ⟨S, 1, none⟩ = some (.int .i64 s.till) ∧ w'.cell? ⟨S, 2, none⟩ = some (.int .i64 s.fin) ∧ w'.cell? ⟨S, 3, none⟩ = some (.slice aS nS cS) := ⟨hM.k0, hM.k1, hM.k2, hM.k3⟩
          have hq : S < w'.heap.size := World.block_lt_of_cell? _ _ q0
          clear hM
          clear hHeld hSw
          go_simp
        simp only [Act.put, List.getElem_toArray, List.getElem_cons_zero, List.getElem_cons_succ, List.setIfInBounds_toArray, List.set_cons_zero, List.set_cons_succ]
        refine wpAnyZ_take (i := 2) (v := .int .i64 s.frm) [] rfl (by kernel_rfl) (by kernel_rfl) (by kernel_rfl) (by kernel_rfl) (fun _ _ _ h => h) (Or.inl ⟨by kernel_rfl, fun w' hSw => ?_⟩) hHeld ?_
        · have hM := hSw
          obtain ⟨q0, q1, q2, q3⟩ : w'.cell? ⟨S, 0, none⟩ = some (.int .i64 s.frm) ∧ w'.cell? ⟨S, 1, none⟩ = some (.int .i64 s.till) ∧ w'.cell? ⟨S, 2, none⟩ = some (.int .i64 s.fin) ∧ w'.cell? ⟨S, 3, none⟩ = some (.slice aS nS cS) := ⟨hM.k0, hM.k1, hM.k2, hM.k3⟩
          have hq : S < w'.heap.size := World.block_lt_of_cell? _ _ q0
          clear hM
          clear hHeld hSw
          go_simp
        simp only [Act.put, List.getElem_toArray, List.getElem_cons_zero, List.getElem_cons_succ, List.setIfInBounds_toArray, List.set_cons_zero, List.set_cons_succ]
        refine wpAnyZ_take (i := 3) (v := .int .i64 m) [] rfl (by kernel_rfl) (by kernel_rfl) (by kernel_rfl) (by kernel_rfl) (fun _ _ _ h => h) (Or.inl ⟨by kernel_rfl, fun w' hSw => ?_⟩) hHeld ?_
        · have hM := hSw
          obtain ⟨q0, q1, q2, q3⟩ : w'.cell? ⟨S, 0, none⟩ = some (.int .i64 s.frm) ∧ w'.cell? ⟨S, 1, none⟩ = some (.int .i64 s.till) ∧ w'.cell? ⟨S, 2, none⟩ = some (.int .i64 s.fin) ∧ w'.cell? ⟨S, 3, none⟩ = some (.slice aS nS cS) := ⟨hM.k0, hM.k1, hM.k2, hM.k3⟩
          have hq : S < w'.heap.size := World.block_lt_of_cell? _ _ q0
          clear hM
          clear hHeld hSw
          go_simp
        simp only [Act.put, List.getElem_toArray, List.getElem_cons_zero, List.getElem_cons_succ, List.setIfInBounds_toArray, List.set_cons_zero, List.set_cons_succ]
        refine wpAnyZ_take (i := 5) (v := .agg #[.int .i64 s.frm, .int .i64 s.till, .int .i64 s.fin, .slice aS nS cS]) [] rfl (by kernel_rfl) (by kernel_rfl) (by kernel_rfl) (by kernel_rfl) (fun _ _ _ h => h) (Or.inl ⟨by kernel_rfl, fun w' hSw => ?_⟩) hHeld ?_
        · have hM := hSw
          obtain ⟨q0, q1, q2, q3⟩ : w'.cell? ⟨S, 0, none⟩ = some (.int .i64 s.frm) ∧ w'.cell? ⟨S, 1, none⟩ = some (.int .i64 s.till) ∧ w'.cell? ⟨S, 2, none⟩ = some (.int .i64 s.fin) ∧ w'.cell? ⟨S, 3, none⟩ = some (.slice aS nS cS) := ⟨hM.k0, hM.k1, hM.k2, hM.k3⟩
          have hq : S < w'.heap.size := World.block_lt_of_cell? _ _ q0
          clear hM
          clear hHeld hSw
          go_simp
        simp only [Act.put, List.getElem_toArray, List.getElem_cons_zero, List.getElem_cons_succ, List.setIfInBounds_toArray, List.set_cons_zero, List.set_cons_succ]
        refine wpAnyZ_take (i := 6) (v := .int .i64 m) [] rfl (by kernel_rfl) (by kernel_rfl) (by kernel_rfl) (by kernel_rfl) (fun _ _ _ h => h) (Or.inl ⟨by kernel_rfl, fun w' hSw => ?_⟩) hHeld ?_
        · have hM := hSw
          obtain ⟨q0, q1, q2, q3⟩ : w'.cell? ⟨S, 0, none⟩ = some (.int .i64 s.frm) ∧ w'.cell? ⟨S, 1, none⟩ = some (.int .i64 s.till) ∧ w'.cell? ⟨S, 2, none⟩ = some (.int .i64 s.fin) ∧ w'.cell? ⟨S, 3, none⟩ = some (.slice aS nS cS) := ⟨hM.k0, hM.k1, hM.k2, hM.k3⟩
          have hq : S < w'.heap.size := World.block_lt_of_cell? _ _ q0
          clear hM
          clear hHeld hSw
          go_simp
        simp only [Act.put, List.getElem_toArray, List.getElem_cons_zero, List.getElem_cons_succ, List.setIfInBounds_toArray, List.set_cons_zero, List.set_cons_succ]
        refine wpAnyZ_take (i := 7) (v := .pointer (some ⟨S, 1, none⟩)) [] rfl (by kernel_rfl) (by kernel_rfl) (by kernel_rfl) (by kernel_rfl) (fun _ _ _ h => h) (Or.inl ⟨by kernel_rfl, fun w' hSw => ?_⟩) hHeld ?_
        · have hM := hSw
          obtain ⟨q0, q1, q2, q3⟩ : w'.cell? ⟨S, 0, none⟩ = some (.int .i64 s.frm) ∧ w'.cell? ⟨S, 1, none⟩ = some (.int .i64 s.till) ∧ w'.cell? ⟨S, 2, none⟩ = some (.int .i64 s.fin) ∧ w'.cell? ⟨S, 3, none⟩ = some (.slice aS nS cS) := ⟨hM.k0, hM.k1, hM.k2, hM.k3⟩
          have hq : S < w'.heap.size := World.block_lt_of_cell? _ _ q0
          clear hM
          clear hHeld hSw
          go_simp
        simp only [Act.put, List.getElem_toArray, List.getElem_cons_zero, List.getElem_cons_succ, List.setIfInBounds_toArray, List.set_cons_zero, List.set_cons_succ]
        refine wpAnyZ_take (i := 8) (v := .int .i64 s.till) [] rfl (by kernel_rfl) (by kernel_rfl) (by kernel_rfl) (by kernel_rfl) (fun _ _ _ h => h) (Or.inl ⟨by kernel_rfl, fun w' hSw => ?_⟩) hHeld ?_
        · have hM := hSw
          obtain ⟨q0, q1, q2, q3⟩ : w'.cell? ⟨S, 0, none⟩ = some (.int .i64 s.frm) ∧ w'.cell? ⟨S, 1, none⟩ = some (.int .i64 s.till) ∧ w'.cell? ⟨S, 2, none⟩ = some (.int .i64 s.fin) ∧ w'.cell? ⟨S, 3, none⟩ = some (.slice aS nS cS) := ⟨hM.k0, hM.k1, hM.k2, hM.k3⟩
          have hq : S < w'.heap.size := World.block_lt_of_cell? _ _ q0
          clear hM
          clear hHeld hSw
          go_simp
        simp only [Act.put, List.getElem_toArray, List.getElem_cons_zero, List.getElem_cons_succ, List.setIfInBounds_toArray, List.set_cons_zero, List.set_cons_succ]
        refine wpAnyZ_one (i := 4) (by kernel_rfl) rfl (fun K' hK => ?_)
        go_simp
        refine (lhPart_fresh aS nS cS s s.frm m w1.drew (Lib.hid hHeld.rd) (by have := HNS.out; omega) (by have := HBD.out; omega) (by have := HBD.out; omega)).mono ?_
        rintro e w2 ⟨A, An, Ac, rfl, hA, hb, hfA⟩
        have HA := Lib.hid hA
        have HBA := Lib.hid hb
        have HFA := Lib.hid hfA
        have x1 : SesM w w2 S aS nS cS s := hHeld.keep hb
        clear hb hA hfA
        refine hK.out _ _ ?_ (fun hHeld' => ?_)
        · exact x1
        clear x1 hK K' hHeld
        have hHeld := hHeld'
        clear hHeld'
        try simp only [Act.put, List.getElem_toArray, List.getElem_cons_zero, List.getElem_cons_succ, List.setIfInBounds_toArray, List.set_cons_zero, List.set_cons_succ]
        refine wpAnyZ_one (i := 9) (by kernel_rfl) rfl (fun K' hK => ?_)
        go_simp
        refine (lhPart_fresh aS nS cS s m s.till w2 (Lib.hid hHeld.rd) (by have := HNS.out; omega) (by have := HBD.out; omega) (by have := HBD.out; omega)).mono ?_
        rintro e w3 ⟨B, Bn, Bc, rfl, hB, hb, hfB⟩
        have HB := Lib.hid hB
        have HBB := Lib.hid hb
        have HFB2 := Lib.hid hfB
        have x1 : SesM w w3 S aS nS cS s := hHeld.keep hb
        clear hb hB hfB
        refine hK.out _ _ ?_ (fun hHeld' => ?_)
        · exact x1
        clear x1 hK K' hHeld
        have hHeld := hHeld'
        clear hHeld'
        try simp only [Act.put, List.getElem_toArray, List.getElem_cons_zero, List.getElem_cons_succ, List.setIfInBounds_toArray, List.set_cons_zero, List.set_cons_succ]
        have HZR1 : Hid (Own w3 R1 31 4 (seF 0 0 0 (.slice none 0 0))) := Lib.hid ((HR1.out.drew.keep HBA.out HR1.out.lt).keep HBB.out (Nat.lt_of_lt_of_le HR1.out.lt HBA.out.size))
        have HZ : Hid (Own w3 R2 31 4 (seF 0 0 0 (.slice none 0 0))) := Lib.hid ((HR2.out.drew.keep HBA.out HR2.out.lt).keep HBB.out (Nat.lt_of_lt_of_le HR2.out.lt HBA.out.size))
        have y0R1 : w3.cell? ⟨R1, 0, none⟩ = some (.int .i64 0) := HZR1.out.cell (i := 0) (by omega)
        have f0R1 := HZR1.out.frozen 0
        have y1R1 : w3.cell? ⟨R1, 1, none⟩ = some (.int .i64 0) := HZR1.out.cell (i := 1) (by omega)
        have f1R1 := HZR1.out.frozen 1
        have y2R1 : w3.cell? ⟨R1, 2, none⟩ = some (.int .i64 0) := HZR1.out.cell (i := 2) (by omega)
        have f2R1 := HZR1.out.frozen 2
        have y3R1 : w3.cell? ⟨R1, 3, none⟩ = some (.slice none 0 0) := HZR1.out.cell (i := 3) (by omega)
        have f3R1 := HZR1.out.frozen 3
        have hlR1 : R1 < w3.heap.size := HZR1.out.lt
        refine wpAnyZ_one (i := 10) (by kernel_rfl) rfl (fun K' hK => ?_)
        go_simp
        obtain ⟨w4, hw⟩ : ∃ W, W = ((((w3.setCell ⟨R1, 0, none⟩ (.int .i64 s.frm)).setCell ⟨R1, 1, none⟩ (.int .i64 m)).setCell ⟨R1, 2, none⟩ (.int .i64 (partS s s.frm m).fin)).setCell ⟨R1, 3, none⟩ (.slice A An Ac)) := ⟨_, rfl⟩
        rw [← hw]
        have HVR1 : Hid (Own w4 R1 31 4 (seF (s.frm) (m) ((partS s s.frm m).fin) (.slice A An Ac))) := Lib.hid (by rw [hw]; exact ((((HZR1.out.set 0 _).set 1 _).set 2 _).set 3 _).congr (fun i hi => by match i, hi with | 0, _ => rfl | 1, _ => rfl | 2, _ => rfl | 3, _ => rfl))
        have HMR1 : Hid (Mod (fun j => j = R1) w3 w4) := Lib.hid (by rw [hw]; exact modQ4 _ _ _ _ _ _)
        have x1 : SesM w w4 S aS nS cS s := hHeld.mod HS.out (L := R1) (HMR1.out.mono (fun j _ h => by have := HLR.out; omega)) (by have := HLR.out; omega) (by have := HLR.out; omega)
        clear hw y0R1 f0R1 y1R1 f1R1 y2R1 f2R1 y3R1 f3R1 hlR1
        refine hK.out _ _ ?_ (fun hHeld' => ?_)
        · exact x1
        clear x1 hK K' hHeld
        have hHeld := hHeld'
        clear hHeld'
        try simp only [Act.put, List.getElem_toArray, List.getElem_cons_zero, List.getElem_cons_succ, List.setIfInBounds_toArray, List.set_cons_zero, List.set_cons_succ]
        have HZR2 := Lib.hid (HZ.out.mod HMR1.out (by have := HLR.out; omega))
        have y0R2 : w4.cell? ⟨R2, 0, none⟩ = some (.int .i64 0) := HZR2.out.cell (i := 0) (by omega)
        have f0R2 := HZR2.out.frozen 0
        have y1R2 : w4.cell? ⟨R2, 1, none⟩ = some (.int .i64 0) := HZR2.out.cell (i := 1) (by omega)
        have f1R2 := HZR2.out.frozen 1
        have y2R2 : w4.cell? ⟨R2, 2, none⟩ = some (.int .i64 0) := HZR2.out.cell (i := 2) (by omega)
        have f2R2 := HZR2.out.frozen 2
        have y3R2 : w4.cell? ⟨R2, 3, none⟩ = some (.slice none 0 0) := HZR2.out.cell (i := 3) (by omega)
        have f3R2 := HZR2.out.frozen 3
        have hlR2 : R2 < w4.heap.size := HZR2.out.lt
        refine wpAnyZ_one (i := 11) (by kernel_rfl) rfl (fun K' hK => ?_)
        go_simp
        obtain ⟨w5, hw⟩ : ∃ W, W = ((((w4.setCell ⟨R2, 0, none⟩ (.int .i64 m)).setCell ⟨R2, 1, none⟩ (.int .i64 s.till)).setCell ⟨R2, 2, none⟩ (.int .i64 (partS s m s.till).fin)).setCell ⟨R2, 3, none⟩ (.slice B Bn Bc)) := ⟨_, rfl⟩
        rw [← hw]
        have HVR2 : Hid (Own w5 R2 31 4 (seF (m) (s.till) ((partS s m s.till).fin) (.slice B Bn Bc))) := Lib.hid (by rw [hw]; exact ((((HZR2.out.set 0 _).set 1 _).set 2 _).set 3 _).congr (fun i hi => by match i, hi with | 0, _ => rfl | 1, _ => rfl | 2, _ => rfl | 3, _ => rfl))
        have HMR2 : Hid (Mod (fun j => j = R2) w4 w5) := Lib.hid (by rw [hw]; exact modQ4 _ _ _ _ _ _)
        have x1 : SesM w w5 S aS nS cS s := hHeld.mod HS.out (L := R1) (HMR2.out.mono (fun j _ h => by have := HLR.out; omega)) (by have := HLR.out; omega) (by have := HLR.out; omega)
        clear hw y0R2 f0R2 y1R2 f1R2 y2R2 f2R2 y3R2 f3R2 hlR2
        refine hK.out _ _ ?_ (fun hHeld' => ?_)
        · exact x1
        clear x1 hK K' hHeld
        have hHeld := hHeld'
        clear hHeld'
        try simp only [Act.put, List.getElem_toArray, List.getElem_cons_zero, List.getElem_cons_succ, List.setIfInBounds_toArray, List.set_cons_zero, List.set_cons_succ]
        refine wpAnyZ_take (i := 12) (v := .int .i64 0) [] rfl (by kernel_rfl) (by kernel_rfl) (by kernel_rfl) (by kernel_rfl) (fun _ _ _ h => h) (Or.inl ⟨by kernel_rfl, fun w' hSw => ?_⟩) hHeld ?_
        · clear hHeld hSw
          go_simp
        simp only [Act.put, List.getElem_toArray, List.getElem_cons_zero, List.getElem_cons_succ, List.setIfInBounds_toArray, List.set_cons_zero, List.set_cons_succ]
        refine wpAnyZ_done (by kernel_rfl) ?_ _
        go_wp2_with fail
        have HV1' := HVR1.out.mod HMR2.out (by have := HLR.out; omega)
        refine bodyPost_ret (results_cct (a := 4) (b := 5) (t := 6) (ty := 31) (tz := 31) (x := R1) (y := R2) (by kernel_rfl) rfl rfl (load_ses HV1') (load_ses HVR2.out)) rfl ?_
        have HMA : Hid (Mod (fun j => j = R1 ∨ j = R2) w3 w5) := Lib.hid ((HMR1.out.mono (fun j _ h => .inl h)).trans (HMR2.out.mono (fun j _ h => .inr h)))
        refine .inl ⟨HFB.out, A, An, Ac, B, Bn, Bc, rfl, ?_, ?_, ?_⟩
        · exact (HA.out.keep HBB.out).mod' HMA.out (fun a ha e => by have h1 := HFA.out a ha; have h2 := HR2.out.lt; have h3 := HLR.out; have h4 : w1.heap.size ≤ a.block := h1; omega)
        · exact HB.out.mod' HMA.out (fun a ha e => by have h1 := HFB2.out a ha; have h2 := HR2.out.lt; have h3 := HLR.out; have h4 := HBA.out.size; have h5 : w1.heap.size ≤ w2.heap.size := h4; omega)
        · refine ⟨hHeld.bel, fun a ha => ?_⟩
          have h1 := HFB2.out a ha
          have h4 := HBA.out.size
          have h5 : w1.heap.size ≤ w2.heap.size := h4
          have h6 := HM.out.bel.size
          omega
end Go.Proofs.YtoekpdnpncgeeaaGreat
