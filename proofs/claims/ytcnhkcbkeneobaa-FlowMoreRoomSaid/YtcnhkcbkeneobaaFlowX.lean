/-
The law FlowMoreRoom, walked.
-/
import Derived.Test.YtcnhkcbkeneobaaFlowT2
import Derived.Test.YtcnhkcbkeneobaaAppE3
namespace Go.Proofs.Ytcnhkcbkeneobaa
open Go.RowKit
set_option linter.unusedVariables false
set_option maxRecDepth 100000 in
set_option maxHeartbeats 8000000 in
theorem walk_FlowMoreRoom (nodes : Int) (_wn : wf64 nodes) (A : Option Addr) (c N : Nat) (es : List GEdge) {w : World} (hR : Rd 3 encE w A es) (HN : Hid (es.length = N)) (hl : N ≤ 9223372036854775807) (_wz : ∀ e, e ∈ es → wfE e) (s : Int) (_ws : wf64 s) (t : Int) (_wt : wf64 t) (x : Int) (wx : wf64 x) (y : Int) (_wy : wf64 y) :
    Calls Try.prog 7 #[.agg #[.int .i64 nodes, .slice A N c], .int .i64 s, .int .i64 t, .int .i64 x, .int .i64 y] w fun e w' => e = .returned (.bool true) ∧ Below w.heap.size w w' := by
  have xb := wf_bd wx
  clear wx
  have a0 : Below w.heap.size w (w.alloc (.cells #[.int .i64 nodes, .slice A N c] 24)) := (Below.refl _ w).alloc (Nat.le_refl _) _
  go_enter Try.func7, Try.ntmps7
  go_wp2_with fail
  refine (lfHead_any _).mono ?_
  rintro e w1 ⟨rfl, hb1⟩
  have k01 : w1.cell? ⟨w.heap.size, 0, none⟩ = some (.int .i64 nodes) := (hb1.cell (p := ⟨w.heap.size, 0, none⟩) (by simp)).trans (by go_simp)
  have k11 : w1.cell? ⟨w.heap.size, 1, none⟩ = some (.slice A N c) := (hb1.cell (p := ⟨w.heap.size, 1, none⟩) (by simp)).trans (by go_simp)
  have b1 : Below w.heap.size w w1 := below_then a0 hb1
  have l1 : w.heap.size < w1.heap.size := World.block_lt_of_cell? w1 _ k01
  have r1 := hR.keep b1
  clear hb1 a0
  go_wp2_with fail
  refine (rfEnds_any nodes s t A c N es w1 r1 HN.out hl).mono ?_
  rintro e w2 ⟨rfl, hb2⟩
  have k02 : w2.cell? ⟨w.heap.size, 0, none⟩ = some (.int .i64 nodes) := (hb2.cell (p := ⟨w.heap.size, 0, none⟩) l1).trans k01
  have k12 : w2.cell? ⟨w.heap.size, 1, none⟩ = some (.slice A N c) := (hb2.cell (p := ⟨w.heap.size, 1, none⟩) l1).trans k11
  have l2 : w.heap.size < w2.heap.size := World.block_lt_of_cell? w2 _ k02
  have b2 : Below w.heap.size w w2 := below_then b1 hb2
  have r2 := r1.keep hb2
  clear hb2 b1 k01 k11 l1 r1 
  cases hE : okEnds nodes es s t
  · go_wp2_with fail
    go_ret
    exact ⟨rfl, b2⟩
  have HE := Lib.hid hE
  obtain ⟨hok, e1, e2, e3, e4, e5⟩ := okEnds_iff.1 hE
  obtain ⟨n1, n2, hl2⟩ := (okG_iff.1 hok).1
  rw [HN.out] at hl2
  clear hE
  by_cases z0 : N = 0
  · have z0b : ((N : Int) == 0) = true := by rw [z0]; rfl
    go_wp2_with fail
    go_ret
    exact ⟨rfl, b2⟩
  have z0b : ((N : Int) == 0) = false := by rw [beq_eq_false_iff_ne]; omega
  by_cases x0 : x < 0
  · go_wp2_with fail
    go_ret
    exact ⟨rfl, b2⟩
  by_cases y0 : y < 0
  · go_wp2_with fail
    go_ret
    exact ⟨rfl, b2⟩
  by_cases y1 : 1000000 < y
  · go_wp2_with fail
    go_ret
    exact ⟨rfl, b2⟩
  have hmk := mk_empty (P := Try.prog) 22 39 (.agg #[.int .i64 0, .int .i64 0, .int .i64 0]) 3 24 Try.underlying22 appInfoEdge #[.int .i64 0, .int .i64 0, .int .i64 0] rfl N (by omega) (by omega)
  have hA : ∃ a, A = some a := by
    obtain ⟨b, off, hA, _⟩ := r2 (by rw [HN.out]; omega)
    exact ⟨_, hA⟩
  obtain ⟨wm, hwm⟩ : ∃ wm, wm = w2.alloc (.cells (madeCells #[.int .i64 0, .int .i64 0, .int .i64 0] (N * 3)) 39) := ⟨_, rfl⟩
  have hbm : Below w2.heap.size w2 wm := by rw [hwm]; exact (Below.refl _ w2).alloc (Nat.le_refl _) _
  have hown : OwnE wm w2.heap.size (.slice (some ⟨w2.heap.size, 0, none⟩) 0 N) [] := by rw [hwm]; exact OwnR.made w2 _ N (by unfold maxLen; omega) (by rw [size_madeCells]) (Nat.le_refl _)
  obtain ⟨ap', v3, w3, av', aw', hown3, hmod', _⟩ := app_rows (P := Try.prog) (ty := 22) (c := c) (m := N) (w := wm.drew) appInfoEdge Try.underlying22 rfl (by omega) encE_len encE_one hown (r2.keep (Below.drew hbm)) HN.out hA (by rw [hwm]; simp) (by simp; unfold maxLen; omega) (by simp; omega)
  have hb3 : Below w2.heap.size w2 w3 := (Below.drew hbm).trans (OwnR.below (w := wm.drew) hown hmod' (by rw [hwm]; simp))
  have k03 : w3.cell? ⟨w.heap.size, 0, none⟩ = some (.int .i64 nodes) := (hb3.cell (p := ⟨w.heap.size, 0, none⟩) l2).trans k02
  have k13 : w3.cell? ⟨w.heap.size, 1, none⟩ = some (.slice A N c) := (hb3.cell (p := ⟨w.heap.size, 1, none⟩) l2).trans k12
  have r3 := r2.keep hb3
  rw [hwm] at ap' av' aw'
  go_wp2
  go_region_held3 (fun w' => w'.cell? ⟨w.heap.size, 1, none⟩ = some (.slice A N c)) (first | exact k12 | exact k13 | (refine Eq.trans (Below.cell (B := w2.heap.size) (w := w2) (p := ⟨w.heap.size, 1, none⟩) ?_ l2) k12; repeat (first | exact Below.refl _ _ | refine Below.drew ?_ | refine Below.alloc ?_ (by first | (simp; done) | (simp; omega)) _ | refine Below.setCell ?_ (by first | (simp; done) | (simp; omega)) _))) (fail)
  clear ap' av' aw' hmk k02 k12
  rw [List.nil_append] at hown3
  obtain ⟨g, cap, hv3, hg, hgl⟩ := World.ownsRow.form hown3 (by rw [HN.out]; omega)
  rw [HN.out] at hv3
  subst hv3
  obtain ⟨q, hq⟩ : ∃ q : Nat, q = x.toNat % N := ⟨_, rfl⟩
  have hN0 : ¬ (N : Int) = 0 := by omega
  have hm1 : x.tmod (N : Int) = (q : Int) := by
    rw [Int.tmod_eq_emod_of_nonneg (by omega), hq, Int.natCast_emod, Int.toNat_of_nonneg (by omega)]
  have hqN : q < N := by rw [hq]; exact Nat.mod_lt _ (by omega)
  obtain ⟨h0, h1⟩ := wide_cell hown3 HN.out hqN
  have ok := okG_at hok (i := q) (by rw [HN.out]; exact hqN)
  have hcap0 := ok.2.2.2.2.1
  have hcap1 := ok.2.2.2.2.2
  have Hown3 := Lib.hid hown3
  have HA := Lib.hid hA
  have Hq := Lib.hid hq
  have Hok := Lib.hid ok
  obtain ⟨e, he⟩ : ∃ e, e = (eAt es q).cap := ⟨_, rfl⟩
  rw [← he] at h0 hcap0 hcap1
  have He := Lib.hid he
  clear hown hown3 hmod' hbm hA hq ok he
  have hqz : (q : Int) < (N : Int) := by omega
  have hNb : ((N : Int) == 0) = false := by rw [beq_eq_false_iff_ne]; exact hN0
  obtain ⟨w4, hw4⟩ : ∃ w4, w4 = (w3.setCell ⟨g, q * 3 + 2, none⟩ (.int .i64 (if e + y < 1000000 then e + y else 1000000))).drew := ⟨_, rfl⟩
  have hb34 : Below w2.heap.size w3 w4 := by rw [hw4]; exact Below.drew ((Below.refl _ w3).setCell hg _)
  have HR4 : Hid (Rd 3 encE w4 (some ⟨g, 0, none⟩) (wide es q (if e + y < 1000000 then e + y else 1000000))) := by rw [hw4]; exact wide_rd Hown3.out HN.out hqN _
  have b4 : Below w.heap.size w w4 := below_then b2 (hb3.trans hb34)
  have k04 : w4.cell? ⟨w.heap.size, 0, none⟩ = some (.int .i64 nodes) := (hb34.cell (p := ⟨w.heap.size, 0, none⟩) l2).trans k03
  have k14 : w4.cell? ⟨w.heap.size, 1, none⟩ = some (.slice A N c) := (hb34.cell (p := ⟨w.heap.size, 1, none⟩) l2).trans k13
  have r4 := r2.keep (hb3.trans hb34)
  have c0 : e ≤ (if e + y < 1000000 then e + y else 1000000) := by split <;> omega
  have c1 : (if e + y < 1000000 then e + y else 1000000) ≤ e + y := by split <;> omega
  have c2 : (if e + y < 1000000 then e + y else 1000000) ≤ 1000000 := by split <;> omega
  have HE2 : Hid (okEnds nodes (wide es q (if e + y < 1000000 then e + y else 1000000)) s t = true) := Lib.hid (okEnds_iff.2 ⟨wide_ok (by rw [HN.out]; exact hqN) (by omega) c2 hok, e1, e2, e3, e4, e5⟩)
  have HW4 := Lib.hid hw4
  clear hw4 hb34 b2 hb3
  go_wp2
  go_big_region
  rw [← HW4.out]
  generalize (if e + y < 1000000 then e + y else 1000000) = cc at *
  clear HW4 k03 k13 h0 h1 hgl
  have l4 : w.heap.size < w4.heap.size := World.block_lt_of_cell? w4 _ k04
  go_wp2_with fail
  refine (fMost_fine nodes s t c N A es w4 r4 HN HE).mono ?_
  rintro e w5 ⟨n, B1, m1, d1, B2, m2, d2, rfl, h1, n1l, n1h, hb5⟩
  have c05 : w5.cell? ⟨w.heap.size, 0, none⟩ = some (.int .i64 nodes) := (hb5.cell (p := ⟨w.heap.size, 0, none⟩) l4).trans k04
  have b5 : Below w.heap.size w w5 := below_then b4 hb5
  have ru5 := HR4.out.keep hb5
  have hs := (wide_len es q cc).trans HN.out
  clear k04 k14 hb5 r4 HR4 l4 b4
  go_wp2_with fail
  refine (fMost_fine nodes s t cap N _ (wide es q cc) _ ru5 (Lib.hid hs) HE2).mono ?_
  rintro e w6 ⟨m, B3, m3, d3, B4, m4, d4, rfl, h2, n2l, n2h, hb6⟩
  have b6 : Below w.heap.size w w6 := below_then b5 hb6
  obtain ⟨g1, g2⟩ := wide_most (by rw [HN.out]; exact hqN) HE.out (by rw [← He.out]; exact c0) (by rw [← He.out]; exact c1) c2 h1.out h2.out
  clear h1 h2 HE HE2
  go_wp2_with fail
  go_ret
  exact ⟨rfl, b6⟩
end Go.Proofs.Ytcnhkcbkeneobaa
