/-
The law AdmitModest, walked.
-/
import Derived.Test.YtgfcnkfmgpakkaaCAdmW1
namespace Go.Proofs.Ytgfcnkfmgpakkaa
open Go.RowKit
set_option linter.unusedVariables false
set_option linter.unusedSimpArgs false
theorem u8_bd {x : Int} (h : (Lit.int .u8 x).wf = true) : 0 ≤ x ∧ x ≤ 255 := by
  simp [Lit.wf, IntKind.min, IntKind.max, IntKind.signed, IntKind.bits] at h
  omega
theorem RRm.four {w W : World} {x : GJob} (h : RRm w W x) (e r f t : Int) : RRm w ((((W.setCell ⟨w.heap.size, 2, none⟩ (.int .i64 e)).setCell ⟨w.heap.size, 3, none⟩ (.int .i64 r)).setCell ⟨w.heap.size, 0, none⟩ (.int .i64 f)).setCell ⟨w.heap.size, 1, none⟩ (.int .i64 t)) ⟨f, t, e, r, x.rank⟩ := by
  refine ⟨((((h.own.set 2 _).set 3 _).set 0 _).set 1 _).congr (fun i hi => ?_), (((h.bel.setCell (p := ⟨w.heap.size, 2, none⟩) (Nat.le_refl _) _).setCell (p := ⟨w.heap.size, 3, none⟩) (Nat.le_refl _) _).setCell (p := ⟨w.heap.size, 0, none⟩) (Nat.le_refl _) _).setCell (p := ⟨w.heap.size, 1, none⟩) (Nat.le_refl _) _⟩
  rcases i with _ | _ | _ | _ | _ | i
  all_goals first | rfl | omega
set_option maxRecDepth 100000 in
set_option maxHeartbeats 8000000 in
theorem walk_AdmitModest (A : Option Addr) (c N : Nat) (js : List GJob) {w : World} (hR : Rd 5 encJ w A js) (HN : Hid (js.length = N)) (hl : N ≤ 9223372036854775807) (_ : ∀ x, x ∈ js → wfJ x)
    (A2 : Option Addr) (c2 T : Nat) (sup : List Int) (hR2 : Rd 1 encI w A2 sup) (HN2 : Hid (sup.length = T)) (hl2 : T ≤ 9223372036854775807) (_ : ∀ x, x ∈ sup → wf64 x) (x : GJob) (_ : wfJ x) (p : Int) (wp : (Lit.int .u8 p).wf = true) (q : Int) (wq : (Lit.int .u8 q).wf = true) (f : Int) (wf : (Lit.int .u8 f).wf = true) (g : Int) (wg : (Lit.int .u8 g).wf = true) :
    Calls Try.prog 8 #[.slice A N c, .slice A2 T c2, .agg #[.int .i64 x.frm, .int .i64 x.till, .int .i64 x.energy, .int .i64 x.rate, .int .i64 x.rank], .int .u8 p, .int .u8 q, .int .u8 f, .int .u8 g] w fun e w' => e = .returned (.bool true) ∧ Below w.heap.size w w' := by
  have a0 : Below w.heap.size w (w.alloc (.cells #[.int .i64 x.frm, .int .i64 x.till, .int .i64 x.energy, .int .i64 x.rate, .int .i64 x.rank] 25)) := ((Below.refl _ w).alloc (Nat.le_refl _) _)
  have j0 : RRm w (w.alloc (.cells #[.int .i64 x.frm, .int .i64 x.till, .int .i64 x.energy, .int .i64 x.rate, .int .i64 x.rank] 25)) x := ⟨jobNew w x, (Below.refl _ w).alloc (Nat.le_refl _) _⟩
  go_enter Try.func8, Try.ntmps8
  go_wp2_with fail
  refine (laHead_any _).mono ?_
  rintro e w1 ⟨rfl, hb1⟩
  have b1 := below_then a0 hb1
  have j0 := j0.keep hb1
  have af : Below w1.heap.size w1 (w1.alloc (.cells #[.slice A2 T c2] 23)) := (Below.refl _ _).alloc (Nat.le_refl _) _
  have rf : Rd 1 encRow (w1.alloc (.cells #[.slice A2 T c2] 23)) (some ⟨w1.heap.size, 0, none⟩) [⟨A2, T, c2⟩] := rd_rows w1 [⟨A2, T, c2⟩]
  have b2 := below_then b1 af
  have HJ0 := Lib.hid (j0.keep af)
  clear hb1 b1 a0 j0
  go_wp2_with fail
  refine (laFew_any A _ c N 1 1 [⟨A2, T, c2⟩] _ rf (Lib.hid rfl) (by omega) hl (fun r hr => by simp at hr; subst hr; exact hl2)).mono ?_
  rintro e w2 ⟨rfl, hw2⟩
  have hb2w : Below w.heap.size w w2 := by rw [hw2]; exact b2
  have HJ0 := Lib.hid (show RRm w w2 x from by rw [hw2]; exact HJ0.out)
  clear af rf b2 hw2
  have B2 := Lib.hid hb2w
  clear hb2w
  cases hfew : fewL [⟨A2, T, c2⟩] N
  · go_wp2_with fail
    go_ret
    exact ⟨rfl, B2.out⟩
  have hN := fewL_N hfew
  have hT : T ≤ 40 := fewL_r hfew (r := ⟨A2, T, c2⟩) (by simp)
  clear hfew
  have bp := u8_bd wp
  have bq := u8_bd wq
  have bf := u8_bd wf
  have bg := u8_bd wg
  have k0 : w2.cell? ⟨w.heap.size, 0, none⟩ = some (.int .i64 x.frm) := HJ0.out.own.cell (i := 0) (by omega)
  have k1 : w2.cell? ⟨w.heap.size, 1, none⟩ = some (.int .i64 x.till) := HJ0.out.own.cell (i := 1) (by omega)
  have k2 : w2.cell? ⟨w.heap.size, 2, none⟩ = some (.int .i64 x.energy) := HJ0.out.own.cell (i := 2) (by omega)
  have k3 : w2.cell? ⟨w.heap.size, 3, none⟩ = some (.int .i64 x.rate) := HJ0.out.own.cell (i := 3) (by omega)
  have k4 : w2.cell? ⟨w.heap.size, 4, none⟩ = some (.int .i64 x.rank) := HJ0.out.own.cell (i := 4) (by omega)
  go_wp2_with fail
  refine (aAdmitE_any A A2 c N c2 T js sup x w2 (hR.keep B2.out) HN hl (hR2.keep B2.out) HN2 hl2).mono ?_
  rintro e w3 ⟨a3, l3, d3, a3', n3', d3', a3'', n3'', d3'', er3, rfl, he3, hb3⟩
  have HE3 := Lib.hid he3
  clear he3 k0 k1 k2 k3 k4
  have ba : Below w3.heap.size w3 (w3.alloc (.cells #[.slice a3' n3' d3', .slice a3'' n3'' d3''] 30)) := (Below.refl _ _).alloc (Nat.le_refl _) _
  have hM := HJ0.out.keep (below_then hb3 ba)
  have HM := Lib.hid hM
  clear hb3 ba hM HJ0 B2
  rcases err_ok (er := er3) (by rw [HE3.out]; exact admE_cases _ _ _) with ⟨_, rfl⟩ | ⟨b3, z3⟩
  case inr =>
    go_wp2_with fail
    go_ret
    exact ⟨rfl, HM.out.bel⟩
  obtain ⟨hok, hmet⟩ := admE_zero.1 HE3.out.symm
  obtain ⟨z1, z2, z3⟩ := okP_snoc.1 hok
  have hbx := okJ_iff.1 (okP_one.1 z2).2.2
  rw [HN2.out] at hbx
  obtain ⟨p1, p2, p3, p4, p5, p6, p7, p8, p9⟩ := hbx
  have HOUT : Hid (∀ y : GJob, y.rank = x.rank → y.frm = max 0 (x.frm - f) → y.till = min (T : Int) (x.till + g) → y.energy = max 0 (x.energy - p) → y.rate = min 1000 (x.rate + q) → admE js sup y = 0) := Lib.hid (fun y y5 y1 y2 y3 y4 => admE_zero.2 ⟨okP_snoc.2 ⟨z1, okP_one.2 ⟨(okP_one.1 z2).1, (okP_one.1 z2).2.1, okJ_iff.2 (by rw [HN2.out]; omega)⟩, z3⟩, hmet.easier z1 (by omega) (by omega) (by omega) (by omega) (by omega)⟩)
  clear hok hmet z1 z2 z3
  go_upto_region 7 with (fail)
  refine wp_world (fun X => RRm w X x) HM.out ?_
  clear HM
  intro W hM
  have HM := Lib.hid hM
  have k0 : W.cell? ⟨w.heap.size, 0, none⟩ = some (.int .i64 x.frm) := hM.own.cell (i := 0) (by omega)
  have k1 : W.cell? ⟨w.heap.size, 1, none⟩ = some (.int .i64 x.till) := hM.own.cell (i := 1) (by omega)
  have k2 : W.cell? ⟨w.heap.size, 2, none⟩ = some (.int .i64 x.energy) := hM.own.cell (i := 2) (by omega)
  have k3 : W.cell? ⟨w.heap.size, 3, none⟩ = some (.int .i64 x.rate) := hM.own.cell (i := 3) (by omega)
  have k4 : W.cell? ⟨w.heap.size, 4, none⟩ = some (.int .i64 x.rank) := hM.own.cell (i := 4) (by omega)
  have f0 := hM.own.frozen 0
  have f1 := hM.own.frozen 1
  have f2 := hM.own.frozen 2
  have f3 := hM.own.frozen 3
  clear hM
  go_upto_region 9 with (fail)
  all_goals
    refine wp_world (fun X => ∃ y : GJob, RRm w X y ∧ admE js sup y = 0) ⟨_, HM.out.four _ _ _ _, HOUT.out _ rfl (by dsimp only; omega) (by dsimp only; omega) (by dsimp only; omega) (by dsimp only; omega)⟩ ?_
    clear HM k0 k1 k2 k3 k4 f0 f1 f2 f3 HOUT
    rintro X ⟨y, hM, hadm⟩
    have HM := Lib.hid hM
    have HAD := Lib.hid hadm
    have k0 : X.cell? ⟨w.heap.size, 0, none⟩ = some (.int .i64 y.frm) := hM.own.cell (i := 0) (by omega)
    have k1 : X.cell? ⟨w.heap.size, 1, none⟩ = some (.int .i64 y.till) := hM.own.cell (i := 1) (by omega)
    have k2 : X.cell? ⟨w.heap.size, 2, none⟩ = some (.int .i64 y.energy) := hM.own.cell (i := 2) (by omega)
    have k3 : X.cell? ⟨w.heap.size, 3, none⟩ = some (.int .i64 y.rate) := hM.own.cell (i := 3) (by omega)
    have k4 : X.cell? ⟨w.heap.size, 4, none⟩ = some (.int .i64 y.rank) := hM.own.cell (i := 4) (by omega)
    clear hM hadm
    go_wp2_with fail
  all_goals
    refine (aAdmitE_any A A2 c N c2 T js sup y X (hR.keep HM.out.bel) HN hl (hR2.keep HM.out.bel) HN2 hl2).mono ?_
    rintro e w5 ⟨a5, l5, d5, a5', n5', d5', a5'', n5'', d5'', er5, rfl, he5, hb5⟩
    obtain rfl : er5 = 0 := he5.trans HAD.out
    have HB : Hid (Below w.heap.size w (w5.alloc (.cells #[.slice a5' n5' d5', .slice a5'' n5'' d5''] 30))) := Lib.hid ((below_then HM.out.bel hb5).alloc (below_then HM.out.bel hb5).size _)
    clear he5 hb5 k0 k1 k2 k3 k4
    go_wp2_with fail
  all_goals
    go_ret
    exact ⟨rfl, HB.out⟩
end Go.Proofs.Ytgfcnkfmgpakkaa
