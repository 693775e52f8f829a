/-
The law FlowMatchesReference, walked.
-/
import Derived.Test.YtcnhkcbkeneobaaFlowT2
import Derived.Test.YtcnhkcbkeneobaaFlowR8
namespace Go.Proofs.Ytcnhkcbkeneobaa
open Go.RowKit
set_option linter.unusedVariables false
set_option maxRecDepth 100000 in
set_option maxHeartbeats 8000000 in
theorem walk_FlowMatchesReference (nodes : Int) (_wn : wf64 nodes) (A : Option Addr) (c N : Nat) (es : List GEdge) {w : World} (hR : Rd 3 encE w A es) (HN : Hid (es.length = N)) (hl : N ≤ 9223372036854775807) (_wz : ∀ e, e ∈ es → wfE e) (s : Int) (_ws : wf64 s) (t : Int) (_wt : wf64 t) (A2 : Option Addr) (c2 N2 : Nat) (fl : List Int) (hR2 : Rd 1 encI w A2 fl) (HN2 : Hid (fl.length = N2)) (hl2' : N2 ≤ 9223372036854775807) (_wf : ∀ x, x ∈ fl → wf64 x) (A3 : Option Addr) (c3 N3 : Nat) (side : List Bool) (hR3 : Rd 1 encB w A3 side) (HN3 : Hid (side.length = N3)) (hl3 : N3 ≤ 9223372036854775807) :
    Calls Try.prog 3 #[.agg #[.int .i64 nodes, .slice A N c], .int .i64 s, .int .i64 t, .slice A2 N2 c2, .slice A3 N3 c3] w fun e w' => e = .returned (.bool true) ∧ Below w.heap.size w w' := by
  have a0 : Below w.heap.size w (w.alloc (.cells #[.int .i64 nodes, .slice A N c] 24)) := (Below.refl _ w).alloc (Nat.le_refl _) _
  go_enter Try.func3, Try.ntmps3
  go_wp2_with fail
  refine (lfHead_any _).mono ?_
  rintro e w1 ⟨rfl, hb1⟩
  have k01 : w1.cell? ⟨w.heap.size, 0, none⟩ = some (.int .i64 nodes) := (hb1.cell (p := ⟨w.heap.size, 0, none⟩) (by simp)).trans (by go_simp)
  have k11 : w1.cell? ⟨w.heap.size, 1, none⟩ = some (.slice A N c) := (hb1.cell (p := ⟨w.heap.size, 1, none⟩) (by simp)).trans (by go_simp)
  have b1 : Below w.heap.size w w1 := below_then a0 hb1
  have l1 : w.heap.size < w1.heap.size := World.block_lt_of_cell? w1 _ k01
  have r1 := hR.keep b1
  have f1 := hR2.keep b1
  have d1 := hR3.keep b1
  clear hb1 a0
  go_wp2_with fail
  refine (lfFew_any nodes A c N w1).mono ?_
  rintro e w2 ⟨rfl, hb2⟩
  have k02 : w2.cell? ⟨w.heap.size, 0, none⟩ = some (.int .i64 nodes) := (hb2.cell (p := ⟨w.heap.size, 0, none⟩) l1).trans k01
  have k12 : w2.cell? ⟨w.heap.size, 1, none⟩ = some (.slice A N c) := (hb2.cell (p := ⟨w.heap.size, 1, none⟩) l1).trans k11
  have l2 : w.heap.size < w2.heap.size := World.block_lt_of_cell? w2 _ k02
  have b2 : Below w.heap.size w w2 := below_then b1 hb2
  have r2 := r1.keep hb2
  have f2 := f1.keep hb2
  have d2 := d1.keep hb2
  clear hb2 b1 k01 k11 l1 r1 f1 d1 
  by_cases hfew : (N : Int) ≤ 600
  case neg =>
    have hd : decide ((N : Int) ≤ 600) = false := by simpa using hfew
    rw [hd]
    go_wp2_with fail
    go_ret
    exact ⟨rfl, b2⟩
  have hd : decide ((N : Int) ≤ 600) = true := by simpa using hfew
  rw [hd]
  clear hd
  by_cases h6 : 600 < (N2 : Int)
  · go_wp2_with fail
    go_ret
    exact ⟨rfl, b2⟩
  by_cases h7 : 100 < (N3 : Int)
  · go_wp2_with fail
    go_ret
    exact ⟨rfl, b2⟩
  go_wp2_with fail
  refine (rfValid_any nodes A c N es w2 r2 HN.out hl).mono ?_
  rintro e w3 ⟨rfl, hb3⟩
  have k03 : w3.cell? ⟨w.heap.size, 0, none⟩ = some (.int .i64 nodes) := (hb3.cell (p := ⟨w.heap.size, 0, none⟩) l2).trans k02
  have k13 : w3.cell? ⟨w.heap.size, 1, none⟩ = some (.slice A N c) := (hb3.cell (p := ⟨w.heap.size, 1, none⟩) l2).trans k12
  have l3 : w.heap.size < w3.heap.size := World.block_lt_of_cell? w3 _ k03
  have b3 : Below w.heap.size w w3 := below_then b2 hb3
  have r3 := r2.keep hb3
  have f3 := f2.keep hb3
  have d3 := d2.keep hb3
  clear hb3 b2 k02 k12 l2 r2 f2 d2 
  go_wp2_with fail
  refine (rfCheck_any nodes s t A A2 A3 c c2 c3 N N2 N3 es fl side w3 r3 HN.out hl f3 HN2.out hl2' d3 HN3.out).mono ?_
  rintro e w4 ⟨rfl, hb4⟩
  have k04 : w4.cell? ⟨w.heap.size, 0, none⟩ = some (.int .i64 nodes) := (hb4.cell (p := ⟨w.heap.size, 0, none⟩) l3).trans k03
  have k14 : w4.cell? ⟨w.heap.size, 1, none⟩ = some (.slice A N c) := (hb4.cell (p := ⟨w.heap.size, 1, none⟩) l3).trans k13
  have l4 : w.heap.size < w4.heap.size := World.block_lt_of_cell? w4 _ k04
  have b4 : Below w.heap.size w w4 := below_then b3 hb4
  have r4 := r3.keep hb4
  have f4 := f3.keep hb4
  have d4 := d3.keep hb4
  clear hb4 b3 k03 k13 l3 r3 f3 d3 
  go_wp2_with fail
  refine (fMost_any nodes s t c N A es w4 r4 HN hl).mono ?_
  rintro e w5 ⟨n, B1, m1, e1, B2, m2, e2, er, rfl, h1, hb5⟩
  have H1 := Lib.hid h1
  clear h1
  have k05 : w5.cell? ⟨w.heap.size, 0, none⟩ = some (.int .i64 nodes) := (hb5.cell (p := ⟨w.heap.size, 0, none⟩) l4).trans k04
  have k15 : w5.cell? ⟨w.heap.size, 1, none⟩ = some (.slice A N c) := (hb5.cell (p := ⟨w.heap.size, 1, none⟩) l4).trans k14
  have l5 : w.heap.size < w5.heap.size := World.block_lt_of_cell? w5 _ k05
  have b5 : Below w.heap.size w w5 := below_then b4 hb5
  have r5 := r4.keep hb5
  have f5 := f4.keep hb5
  have d5 := d4.keep hb5
  clear hb5 b4 k04 k14 l4 r4 f4 d4 
  go_wp2_with fail
  refine (rfMost_any nodes s t c N A es w5 r5 HN hl).mono ?_
  rintro e w6 ⟨m, B3, m3, e3, B4, m4, e4, er2, rfl, h2, hb6⟩
  have H2 := Lib.hid h2
  clear h2
  have k06 : w6.cell? ⟨w.heap.size, 0, none⟩ = some (.int .i64 nodes) := (hb6.cell (p := ⟨w.heap.size, 0, none⟩) l5).trans k05
  have k16 : w6.cell? ⟨w.heap.size, 1, none⟩ = some (.slice A N c) := (hb6.cell (p := ⟨w.heap.size, 1, none⟩) l5).trans k15
  have l6 : w.heap.size < w6.heap.size := World.block_lt_of_cell? w6 _ k06
  have b6 : Below w.heap.size w w6 := below_then b5 hb6
  have r6 := r5.keep hb6
  have f6 := f5.keep hb6
  have d6 := d5.keep hb6
  clear hb6 b5 k05 k15 l5 r5 f5 d5 
  have hne : n = m ∧ er = er2 := by
    rcases H1.out with ⟨rfl, a1, a2, _⟩ | ⟨rfl, a1, rfl⟩
    · rcases H2.out with ⟨rfl, q1, q2, _⟩ | ⟨rfl, q1, rfl⟩
      · exact ⟨IsMost.eq a1 a2 q2, rfl⟩
      · rw [a1] at q1; cases q1
    · rcases H2.out with ⟨rfl, q1, q2, _⟩ | ⟨rfl, q1, rfl⟩
      · rw [a1] at q1; cases q1
      · exact ⟨rfl, rfl⟩
  obtain ⟨rfl, rfl⟩ := hne
  clear H1 H2
  obtain ⟨vv, hvv⟩ : ∃ v, v = okG nodes es := ⟨_, rfl⟩
  obtain ⟨ck, hck⟩ : ∃ v, v = checkB nodes es s t fl side := ⟨_, rfl⟩
  rw [← hvv, ← hck]
  have Hvv := Lib.hid hvv
  have Hck := Lib.hid hck
  clear hvv hck
  have s1 : (n == n) = true := by simp
  have s2 : (er == er) = true := by simp
  have s3 : (vv == vv) = true := by simp
  have s4 : (ck == ck) = true := by simp
  go_wp2_with fail
  refine (fValid_any nodes A c N es w6 r6 HN.out hl).mono ?_
  rintro e w7 ⟨rfl, hb7⟩
  rw [← Hvv.out]
  have k07 : w7.cell? ⟨w.heap.size, 0, none⟩ = some (.int .i64 nodes) := (hb7.cell (p := ⟨w.heap.size, 0, none⟩) l6).trans k06
  have k17 : w7.cell? ⟨w.heap.size, 1, none⟩ = some (.slice A N c) := (hb7.cell (p := ⟨w.heap.size, 1, none⟩) l6).trans k16
  have l7 : w.heap.size < w7.heap.size := World.block_lt_of_cell? w7 _ k07
  have b7 : Below w.heap.size w w7 := below_then b6 hb7
  have r7 := r6.keep hb7
  have f7 := f6.keep hb7
  have d7 := d6.keep hb7
  clear hb7 b6 k06 k16 l6 r6 f6 d6 
  go_wp2_with fail
  refine (fCheck_any nodes s t A A2 A3 c c2 c3 N N2 N3 es fl side w7 r7 HN.out hl f7 HN2.out hl2' d7 HN3.out hl3).mono ?_
  rintro e w8 ⟨rfl, hb8⟩
  rw [← Hck.out]
  have k08 : w8.cell? ⟨w.heap.size, 0, none⟩ = some (.int .i64 nodes) := (hb8.cell (p := ⟨w.heap.size, 0, none⟩) l7).trans k07
  have k18 : w8.cell? ⟨w.heap.size, 1, none⟩ = some (.slice A N c) := (hb8.cell (p := ⟨w.heap.size, 1, none⟩) l7).trans k17
  have l8 : w.heap.size < w8.heap.size := World.block_lt_of_cell? w8 _ k08
  have b8 : Below w.heap.size w w8 := below_then b7 hb8
  have r8 := r7.keep hb8
  have f8 := f7.keep hb8
  have d8 := d7.keep hb8
  clear hb8 b7 k07 k17 l7 r7 f7 d7 
  go_wp2_with fail
  go_ret
  exact ⟨rfl, b8⟩
end Go.Proofs.Ytcnhkcbkeneobaa
