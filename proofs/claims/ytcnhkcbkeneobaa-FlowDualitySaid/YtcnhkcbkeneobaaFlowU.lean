/-
The law FlowDuality, walked.
-/
import Derived.Test.YtcnhkcbkeneobaaFlowT
namespace Go.Proofs.Ytcnhkcbkeneobaa
open Go.RowKit
set_option linter.unusedVariables false
set_option maxRecDepth 100000 in
set_option maxHeartbeats 8000000 in
theorem walk_FlowDuality (nodes : Int) (_wn : wf64 nodes) (A : Option Addr) (c N : Nat) (es : List GEdge) {w : World} (hR : Rd 3 encE w A es) (HN : Hid (es.length = N)) (hl : N ≤ 9223372036854775807) (_wz : ∀ e, e ∈ es → wfE e) (s : Int) (_ws : wf64 s) (t : Int) (_wt : wf64 t) (A2 : Option Addr) (c2 N2 : Nat) (fl : List Int) (hR2 : Rd 1 encI w A2 fl) (HN2 : Hid (fl.length = N2)) (hl2' : N2 ≤ 9223372036854775807) (_wf : ∀ x, x ∈ fl → wf64 x) (A3 : Option Addr) (c3 N3 : Nat) (side : List Bool) (hR3 : Rd 1 encB w A3 side) (HN3 : Hid (side.length = N3)) (hl3 : N3 ≤ 9223372036854775807) :
    Calls Try.prog 5 #[.agg #[.int .i64 nodes, .slice A N c], .int .i64 s, .int .i64 t, .slice A2 N2 c2, .slice A3 N3 c3] w fun e w' => e = .returned (.bool true) ∧ Below w.heap.size w w' := by
  have a0 : Below w.heap.size w (w.alloc (.cells #[.int .i64 nodes, .slice A N c] 24)) := (Below.refl _ w).alloc (Nat.le_refl _) _
  go_enter Try.func5, Try.ntmps5
  go_wp2_with fail
  refine (lfHead_any _).mono ?_
  rintro e w1 ⟨rfl, hb1⟩
  have k01 : w1.cell? ⟨w.heap.size, 0, none⟩ = some (.int .i64 nodes) := (hb1.cell (p := ⟨w.heap.size, 0, none⟩) (by simp)).trans (by go_simp)
  have k11 : w1.cell? ⟨w.heap.size, 1, none⟩ = some (.slice A N c) := (hb1.cell (p := ⟨w.heap.size, 1, none⟩) (by simp)).trans (by go_simp)
  have b1 : Below w.heap.size w w1 := below_then a0 hb1
  have l1 : w.heap.size < w1.heap.size := World.block_lt_of_cell? w1 _ k01
  have r1 := hR.keep b1
  have f1 := hR2.keep b1
  have d1 := hR3.keep b1
  clear hb1 a0
  go_wp2_with fail
  refine (rfEnds_any nodes s t A c N es w1 r1 HN.out hl).mono ?_
  rintro e w2 ⟨rfl, hb2⟩
  have k02 : w2.cell? ⟨w.heap.size, 0, none⟩ = some (.int .i64 nodes) := (hb2.cell (p := ⟨w.heap.size, 0, none⟩) l1).trans k01
  have k12 : w2.cell? ⟨w.heap.size, 1, none⟩ = some (.slice A N c) := (hb2.cell (p := ⟨w.heap.size, 1, none⟩) l1).trans k11
  have l2 : w.heap.size < w2.heap.size := World.block_lt_of_cell? w2 _ k02
  have b2 : Below w.heap.size w w2 := below_then b1 hb2
  have r2 := r1.keep hb2
  have f2 := f1.keep hb2
  have d2 := d1.keep hb2
  clear hb2 b1 k01 k11 l1 r1 f1 d1 
  cases hE : okEnds nodes es s t
  · go_wp2_with fail
    go_ret
    exact ⟨rfl, b2⟩
  have HE := Lib.hid hE
  obtain ⟨hok, e1, e2, e3, e4, e5⟩ := okEnds_iff.1 hE
  obtain ⟨n1, n2, hl2⟩ := (okG_iff.1 hok).1
  rw [HN.out] at hl2
  clear hE
  go_wp2_with fail
  refine (fMost_cases nodes s t c N A es w2 r2 HN HE).mono ?_
  rintro e w3 ⟨gF, gs, flm, sidem, rfl, o13, o23, hfm, hcm, hcap, hb3⟩
  have hm : IsMost nodes es s t (net es flm s) := ⟨flm, sidem, hfm, hcm, rfl, hcap⟩
  have hnb := net_le_bound hok hfm s
  generalize hnn : net es flm s = n at *
  clear o13 o23 hfm hcm hcap
  have k03 : w3.cell? ⟨w.heap.size, 0, none⟩ = some (.int .i64 nodes) := (hb3.cell (p := ⟨w.heap.size, 0, none⟩) l2).trans k02
  have k13 : w3.cell? ⟨w.heap.size, 1, none⟩ = some (.slice A N c) := (hb3.cell (p := ⟨w.heap.size, 1, none⟩) l2).trans k12
  have l3 : w.heap.size < w3.heap.size := World.block_lt_of_cell? w3 _ k03
  have b3 : Below w.heap.size w w3 := below_then b2 hb3
  have r3 := r2.keep hb3
  have f3 := f2.keep hb3
  have d3 := d2.keep hb3
  clear hb3 b2 k02 k12 l2 r2 f2 d2 
  go_wp2_with fail
  refine (rfFlow_any nodes s t A A2 c c2 N N2 es fl w3 r3 HN.out hok f3 HN2.out hl2').mono ?_
  rintro e w4 ⟨rfl, hb4⟩
  have k04 : w4.cell? ⟨w.heap.size, 0, none⟩ = some (.int .i64 nodes) := (hb4.cell (p := ⟨w.heap.size, 0, none⟩) l3).trans k03
  have k14 : w4.cell? ⟨w.heap.size, 1, none⟩ = some (.slice A N c) := (hb4.cell (p := ⟨w.heap.size, 1, none⟩) l3).trans k13
  have l4 : w.heap.size < w4.heap.size := World.block_lt_of_cell? w4 _ k04
  have b4 : Below w.heap.size w w4 := below_then b3 hb4
  have r4 := r3.keep hb4
  have f4 := f3.keep hb4
  have d4 := d3.keep hb4
  clear hb4 b3 k03 k13 l3 r3 f3 d3 
  go_wp2_with fail
  refine (rfCut_any nodes s t A A3 c c3 N N3 side w4 ⟨e1, e2⟩ ⟨e3, e4⟩ d4 HN3.out).mono ?_
  rintro e w5 ⟨rfl, hb5⟩
  have k05 : w5.cell? ⟨w.heap.size, 0, none⟩ = some (.int .i64 nodes) := (hb5.cell (p := ⟨w.heap.size, 0, none⟩) l4).trans k04
  have k15 : w5.cell? ⟨w.heap.size, 1, none⟩ = some (.slice A N c) := (hb5.cell (p := ⟨w.heap.size, 1, none⟩) l4).trans k14
  have l5 : w.heap.size < w5.heap.size := World.block_lt_of_cell? w5 _ k05
  have b5 : Below w.heap.size w w5 := below_then b4 hb5
  have r5 := r4.keep hb5
  have f5 := f4.keep hb5
  have d5 := d4.keep hb5
  clear hb5 b4 k04 k14 l4 r4 f4 d4 
  have Hck : Hid (checkB nodes es s t fl side = (flowB nodes es s t fl && cutB nodes s t side && decide (net es fl s = capac es side))) := by unfold Hid checkB; rw [HE.out]; simp
  cases hF : flowB nodes es s t fl
  · rw [hF] at Hck
    cases hC : cutB nodes s t side
    · rw [hC] at Hck
      go_wp2_with fail
      refine (fCheck_any nodes s t A A2 A3 c c2 c3 N N2 N3 es fl side w5 r5 HN.out hl f5 HN2.out hl2' d5 HN3.out hl3).mono ?_
      rintro e w6 ⟨rfl, hb6⟩
      rw [Hck.out]
      have k06 : w6.cell? ⟨w.heap.size, 0, none⟩ = some (.int .i64 nodes) := (hb6.cell (p := ⟨w.heap.size, 0, none⟩) l5).trans k05
      have k16 : w6.cell? ⟨w.heap.size, 1, none⟩ = some (.slice A N c) := (hb6.cell (p := ⟨w.heap.size, 1, none⟩) l5).trans k15
      have l6 : w.heap.size < w6.heap.size := World.block_lt_of_cell? w6 _ k06
      have b6 : Below w.heap.size w w6 := below_then b5 hb6
      have r6 := r5.keep hb6
      have f6 := f5.keep hb6
      have d6 := d5.keep hb6
      clear hb6 b5 k05 k15 l5 r5 f5 d5 
      go_wp2_with fail
      go_ret
      exact ⟨rfl, b6⟩
    · rw [hC] at Hck
      have hc := cutB_iff.1 hC
      have hM := hc.len
      rw [HN3.out] at hM
      have hle : n ≤ capac es side := hm.le HE.out hc
      go_wp2_with fail
      refine (rfCapacity_any nodes A A3 c c3 N N3 es side w5 r5 HN.out hok d5 HN3.out hM).mono ?_
      rintro e w6 ⟨rfl, hb6⟩
      have k06 : w6.cell? ⟨w.heap.size, 0, none⟩ = some (.int .i64 nodes) := (hb6.cell (p := ⟨w.heap.size, 0, none⟩) l5).trans k05
      have k16 : w6.cell? ⟨w.heap.size, 1, none⟩ = some (.slice A N c) := (hb6.cell (p := ⟨w.heap.size, 1, none⟩) l5).trans k15
      have l6 : w.heap.size < w6.heap.size := World.block_lt_of_cell? w6 _ k06
      have b6 : Below w.heap.size w w6 := below_then b5 hb6
      have r6 := r5.keep hb6
      have f6 := f5.keep hb6
      have d6 := d5.keep hb6
      clear hb6 b5 k05 k15 l5 r5 f5 d5 
      go_wp2_with fail
      refine (fCheck_any nodes s t A A2 A3 c c2 c3 N N2 N3 es fl side w6 r6 HN.out hl f6 HN2.out hl2' d6 HN3.out hl3).mono ?_
      rintro e w7 ⟨rfl, hb7⟩
      rw [Hck.out]
      have k07 : w7.cell? ⟨w.heap.size, 0, none⟩ = some (.int .i64 nodes) := (hb7.cell (p := ⟨w.heap.size, 0, none⟩) l6).trans k06
      have k17 : w7.cell? ⟨w.heap.size, 1, none⟩ = some (.slice A N c) := (hb7.cell (p := ⟨w.heap.size, 1, none⟩) l6).trans k16
      have l7 : w.heap.size < w7.heap.size := World.block_lt_of_cell? w7 _ k07
      have b7 : Below w.heap.size w w7 := below_then b6 hb7
      have r7 := r6.keep hb7
      have f7 := f6.keep hb7
      have d7 := d6.keep hb7
      clear hb7 b6 k06 k16 l6 r6 f6 d6 
      go_wp2_with fail
      go_ret
      exact ⟨rfl, b7⟩
  · have hf := flowB_iff.1 hF
    have hlen := hf.len
    have hfit : ∀ i, i < N → 0 ≤ fAt fl i ∧ fAt fl i ≤ 1000000 := by
      intro i hi
      have h1 := hf.fits i (by rw [HN.out]; exact hi)
      have h2 := okG_at hok (i := i) (by rw [HN.out]; exact hi)
      omega
    have hge : net es fl s ≤ n := hm.ge HE.out hf
    have hNN : N = N2 := by rw [← HN2.out, ← HN.out]; exact hlen.symm
    subst hNN
    rw [hF] at Hck
    cases hC : cutB nodes s t side
    · rw [hC] at Hck
      go_wp2_with fail
      refine (rfAmount_any nodes s A A2 c c2 N es fl w5 r5 HN.out hl2 f5 HN2.out hfit).mono ?_
      rintro e w6 ⟨rfl, hb6⟩
      have k06 : w6.cell? ⟨w.heap.size, 0, none⟩ = some (.int .i64 nodes) := (hb6.cell (p := ⟨w.heap.size, 0, none⟩) l5).trans k05
      have k16 : w6.cell? ⟨w.heap.size, 1, none⟩ = some (.slice A N c) := (hb6.cell (p := ⟨w.heap.size, 1, none⟩) l5).trans k15
      have l6 : w.heap.size < w6.heap.size := World.block_lt_of_cell? w6 _ k06
      have b6 : Below w.heap.size w w6 := below_then b5 hb6
      have r6 := r5.keep hb6
      have f6 := f5.keep hb6
      have d6 := d5.keep hb6
      clear hb6 b5 k05 k15 l5 r5 f5 d5 
      go_wp2_with fail
      refine (fCheck_any nodes s t A A2 A3 c c2 c3 N N N3 es fl side w6 r6 HN.out hl f6 HN2.out hl2' d6 HN3.out hl3).mono ?_
      rintro e w7 ⟨rfl, hb7⟩
      rw [Hck.out]
      have k07 : w7.cell? ⟨w.heap.size, 0, none⟩ = some (.int .i64 nodes) := (hb7.cell (p := ⟨w.heap.size, 0, none⟩) l6).trans k06
      have k17 : w7.cell? ⟨w.heap.size, 1, none⟩ = some (.slice A N c) := (hb7.cell (p := ⟨w.heap.size, 1, none⟩) l6).trans k16
      have l7 : w.heap.size < w7.heap.size := World.block_lt_of_cell? w7 _ k07
      have b7 : Below w.heap.size w w7 := below_then b6 hb7
      have r7 := r6.keep hb7
      have f7 := f6.keep hb7
      have d7 := d6.keep hb7
      clear hb7 b6 k06 k16 l6 r6 f6 d6 
      go_wp2_with fail
      go_ret
      exact ⟨rfl, b7⟩
    · rw [hC] at Hck
      have hc := cutB_iff.1 hC
      have hM := hc.len
      rw [HN3.out] at hM
      have hle : n ≤ capac es side := hm.le HE.out hc
      go_wp2_with fail
      refine (rfAmount_any nodes s A A2 c c2 N es fl w5 r5 HN.out hl2 f5 HN2.out hfit).mono ?_
      rintro e w6 ⟨rfl, hb6⟩
      have k06 : w6.cell? ⟨w.heap.size, 0, none⟩ = some (.int .i64 nodes) := (hb6.cell (p := ⟨w.heap.size, 0, none⟩) l5).trans k05
      have k16 : w6.cell? ⟨w.heap.size, 1, none⟩ = some (.slice A N c) := (hb6.cell (p := ⟨w.heap.size, 1, none⟩) l5).trans k15
      have l6 : w.heap.size < w6.heap.size := World.block_lt_of_cell? w6 _ k06
      have b6 : Below w.heap.size w w6 := below_then b5 hb6
      have r6 := r5.keep hb6
      have f6 := f5.keep hb6
      have d6 := d5.keep hb6
      clear hb6 b5 k05 k15 l5 r5 f5 d5 
      go_wp2_with fail
      refine (rfCapacity_any nodes A A3 c c3 N N3 es side w6 r6 HN.out hok d6 HN3.out hM).mono ?_
      rintro e w7 ⟨rfl, hb7⟩
      have k07 : w7.cell? ⟨w.heap.size, 0, none⟩ = some (.int .i64 nodes) := (hb7.cell (p := ⟨w.heap.size, 0, none⟩) l6).trans k06
      have k17 : w7.cell? ⟨w.heap.size, 1, none⟩ = some (.slice A N c) := (hb7.cell (p := ⟨w.heap.size, 1, none⟩) l6).trans k16
      have l7 : w.heap.size < w7.heap.size := World.block_lt_of_cell? w7 _ k07
      have b7 : Below w.heap.size w w7 := below_then b6 hb7
      have r7 := r6.keep hb7
      have f7 := f6.keep hb7
      have d7 := d6.keep hb7
      clear hb7 b6 k06 k16 l6 r6 f6 d6 
      go_wp2_with fail
      refine (fCheck_any nodes s t A A2 A3 c c2 c3 N N N3 es fl side w7 r7 HN.out hl f7 HN2.out hl2' d7 HN3.out hl3).mono ?_
      rintro e w8 ⟨rfl, hb8⟩
      rw [Hck.out]
      have k08 : w8.cell? ⟨w.heap.size, 0, none⟩ = some (.int .i64 nodes) := (hb8.cell (p := ⟨w.heap.size, 0, none⟩) l7).trans k07
      have k18 : w8.cell? ⟨w.heap.size, 1, none⟩ = some (.slice A N c) := (hb8.cell (p := ⟨w.heap.size, 1, none⟩) l7).trans k17
      have l8 : w.heap.size < w8.heap.size := World.block_lt_of_cell? w8 _ k08
      have b8 : Below w.heap.size w w8 := below_then b7 hb8
      have r8 := r7.keep hb8
      have f8 := f7.keep hb8
      have d8 := d7.keep hb8
      clear hb8 b7 k07 k17 l7 r7 f7 d7 
      by_cases hq : net es fl s = capac es side
      · have g1 : net es fl s = n := by omega
        have g2 : capac es side = n := by omega
        rw [show (true && true && decide (net es fl s = capac es side)) = true by simp [hq]]
        go_wp2_with fail
        refine (rfAmount_any nodes s A A2 c c2 N es fl w8 r8 HN.out hl2 f8 HN2.out hfit).mono ?_
        rintro e w9 ⟨rfl, hb9⟩
        rw [g1]
        have k09 : w9.cell? ⟨w.heap.size, 0, none⟩ = some (.int .i64 nodes) := (hb9.cell (p := ⟨w.heap.size, 0, none⟩) l8).trans k08
        have k19 : w9.cell? ⟨w.heap.size, 1, none⟩ = some (.slice A N c) := (hb9.cell (p := ⟨w.heap.size, 1, none⟩) l8).trans k18
        have l9 : w.heap.size < w9.heap.size := World.block_lt_of_cell? w9 _ k09
        have b9 : Below w.heap.size w w9 := below_then b8 hb9
        have r9 := r8.keep hb9
        have f9 := f8.keep hb9
        have d9 := d8.keep hb9
        clear hb9 b8 k08 k18 l8 r8 f8 d8 
        go_wp2_with fail
        refine (rfCapacity_any nodes A A3 c c3 N N3 es side w9 r9 HN.out hok d9 HN3.out hM).mono ?_
        rintro e w10 ⟨rfl, hb10⟩
        rw [g2]
        have k010 : w10.cell? ⟨w.heap.size, 0, none⟩ = some (.int .i64 nodes) := (hb10.cell (p := ⟨w.heap.size, 0, none⟩) l9).trans k09
        have k110 : w10.cell? ⟨w.heap.size, 1, none⟩ = some (.slice A N c) := (hb10.cell (p := ⟨w.heap.size, 1, none⟩) l9).trans k19
        have l10 : w.heap.size < w10.heap.size := World.block_lt_of_cell? w10 _ k010
        have b10 : Below w.heap.size w w10 := below_then b9 hb10
        have r10 := r9.keep hb10
        have f10 := f9.keep hb10
        have d10 := d9.keep hb10
        clear hb10 b9 k09 k19 l9 r9 f9 d9 
        go_wp2_with fail
        go_ret
        exact ⟨rfl, b10⟩
      · rw [show (true && true && decide (net es fl s = capac es side)) = false by simp [hq]]
        go_wp2_with fail
        go_ret
        exact ⟨rfl, b8⟩
end Go.Proofs.Ytcnhkcbkeneobaa
