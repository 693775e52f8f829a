/-
The law FlowScaling, walked.
-/
import Derived.Test.YtcnhkcbkeneobaaFlowT2
namespace Go.Proofs.Ytcnhkcbkeneobaa
open Go.RowKit
set_option linter.unusedVariables false
set_option maxRecDepth 100000 in
set_option maxHeartbeats 8000000 in
theorem walk_FlowScaling (nodes : Int) (_wn : wf64 nodes) (A : Option Addr) (c N : Nat) (es : List GEdge) {w : World} (hR : Rd 3 encE w A es) (HN : Hid (es.length = N)) (hl : N ≤ 9223372036854775807) (_wz : ∀ e, e ∈ es → wfE e) (s : Int) (_ws : wf64 s) (t : Int) (_wt : wf64 t) (x : Int) (_wx : wf64 x) :
    Calls Try.prog 8 #[.agg #[.int .i64 nodes, .slice A N c], .int .i64 s, .int .i64 t, .int .i64 x] w fun e w' => e = .returned (.bool true) ∧ Below w.heap.size w w' := by
  have a0 : Below w.heap.size w (w.alloc (.cells #[.int .i64 nodes, .slice A N c] 24)) := (Below.refl _ w).alloc (Nat.le_refl _) _
  go_enter Try.func8, Try.ntmps8
  go_wp2_with fail
  refine (lfHead_any _).mono ?_
  rintro e w1 ⟨rfl, hb1⟩
  have k01 : w1.cell? ⟨w.heap.size, 0, none⟩ = some (.int .i64 nodes) := (hb1.cell (p := ⟨w.heap.size, 0, none⟩) (by simp)).trans (by go_simp)
  have k11 : w1.cell? ⟨w.heap.size, 1, none⟩ = some (.slice A N c) := (hb1.cell (p := ⟨w.heap.size, 1, none⟩) (by simp)).trans (by go_simp)
  have b1 : Below w.heap.size w w1 := below_then a0 hb1
  have l1 : w.heap.size < w1.heap.size := World.block_lt_of_cell? w1 _ k01
  have r1 := hR.keep b1
  clear hb1 a0
  by_cases x0 : x < 0
  · go_wp2_with fail
    go_ret
    exact ⟨rfl, b1⟩
  by_cases x1 : 1000 < x
  · go_wp2_with fail
    go_ret
    exact ⟨rfl, b1⟩
  go_wp2_with fail
  refine (lfFew_any nodes A c N w1).mono ?_
  rintro e w2 ⟨rfl, hb2⟩
  have k02 : w2.cell? ⟨w.heap.size, 0, none⟩ = some (.int .i64 nodes) := (hb2.cell (p := ⟨w.heap.size, 0, none⟩) l1).trans k01
  have k12 : w2.cell? ⟨w.heap.size, 1, none⟩ = some (.slice A N c) := (hb2.cell (p := ⟨w.heap.size, 1, none⟩) l1).trans k11
  have l2 : w.heap.size < w2.heap.size := World.block_lt_of_cell? w2 _ k02
  have b2 : Below w.heap.size w w2 := below_then b1 hb2
  have r2 := r1.keep hb2
  clear hb2 b1 k01 k11 l1 r1 
  by_cases hfew : (N : Int) ≤ 600
  case neg =>
    have hd : decide ((N : Int) ≤ 600) = false := by simpa using hfew
    rw [hd]
    go_wp2_with fail
    go_ret
    exact ⟨rfl, b2⟩
  have hd : decide ((N : Int) ≤ 600) = true := by simpa using hfew
  rw [hd]
  clear hd
  go_wp2
  go_loopg [10, 11] N (fun g1 v10 v11 wr => ∃ k : Nat, v11 = .int .i64 k ∧ k ≤ N ∧ N - k ≤ g1 ∧ Hid (OwnE wr w2.heap.size v10 ((es.take k).map (scaleE x))) ∧ Hid (Below w2.heap.size w2 wr))
  case atStart => exact ⟨0, by go_num, by omega, by omega, Lib.hid (by simpa using OwnR.nil _ _), Lib.hid (Below.refl _ _)⟩
  case round =>
    obtain ⟨k, rfl, hk, hg1, HO, HB⟩ := hrel
    have c0 : wr.cell? ⟨w.heap.size, 0, none⟩ = some (.int .i64 nodes) := (HB.out.cell (p := ⟨w.heap.size, 0, none⟩) l2).trans k02
    have c1 : wr.cell? ⟨w.heap.size, 1, none⟩ = some (.slice A N c) := (HB.out.cell (p := ⟨w.heap.size, 1, none⟩) l2).trans k12
    have rr := r2.keep HB.out
    have br : Below w.heap.size w wr := below_then b2 HB.out
    have lr : w.heap.size < wr.heap.size := World.block_lt_of_cell? wr _ c0
    by_cases hlt : k < N
    · have hltz : (k : Int) < (N : Int) := by omega
      obtain ⟨b, off, e, rfl, hbl, he, g0, g1, g2⟩ := rdE_at rr (k := k) (by rw [HN.out]; exact hlt)
      have He := Lib.hid he; clear he
      by_cases hx0 : 1000000 < e.cap
      · as_aux_lemma =>
        go_wp2
        go_ret
        exact ⟨rfl, br.alloc (Nat.le_of_lt lr) _⟩
      by_cases hx1 : e.cap < 0
      · as_aux_lemma =>
        go_wp2
        go_ret
        exact ⟨rfl, br.alloc (Nat.le_of_lt lr) _⟩
      have xc0 : 0 ≤ x * e.cap := Int.mul_nonneg (by omega) (by omega)
      have xc1 : x * e.cap ≤ 1000 * 1000000 := Int.mul_le_mul (by omega) (by omega) (by omega) (by omega)
      obtain ⟨ap, v', w4, av, aw, hown', hmod, _⟩ := app_edge (w := wr.alloc (.cells #[.int .i64 e.frm, .int .i64 e.to, .int .i64 e.cap] 39)) e.frm e.to (x * e.cap) (HO.out.alloc _) (Nat.le_trans HB.out.size (by simp)) (by rw [List.length_map, List.length_take]; omega)
      rw [World.size_alloc] at ap av aw
      have HO2 : Hid (OwnE w4 w2.heap.size v' ((es.take (k + 1)).map (scaleE x))) := Lib.hid (by rw [take_snoc He.out, List.map_append]; exact hown')
      have HB2 : Hid (Below w2.heap.size w2 w4) := Lib.hid (HB.out.trans (((Below.refl _ wr).alloc HB.out.size _).trans ((HO.out.alloc _).below hmod (Nat.le_trans HB.out.size (by simp)))))
      clear hown' hmod HO HB br rr
      go_wp2
      go_roundg (N - (k + 1))
      case measure => omega
      case rel => exact ⟨k + 1, by go_num, by omega, by omega, HO2, HB2⟩
    · have hltz : ¬ (k : Int) < (N : Int) := by omega
      rw [List.take_of_length_le (by rw [HN.out]; omega)] at HO
      change Hid (OwnE wr w2.heap.size _ (scaleG x es)) at HO
      obtain ⟨ua, uc, rfl, ru⟩ := HO.out.rd encE_len
      rw [scale_len, HN.out]
      have lr2 := lr
      clear HO HB l2 k02 k12 r2 b2
      have hs := scale_len x es
      rw [HN.out] at hs
      go_wp2_with fail
      refine (fMost_any nodes s t c N A es wr rr HN hl).mono ?_
      rintro e w4 ⟨n, B1, m1, d1, B2, m2, d2, er, rfl, h1, hb4⟩
      have c04 : w4.cell? ⟨w.heap.size, 0, none⟩ = some (.int .i64 nodes) := (hb4.cell (p := ⟨w.heap.size, 0, none⟩) lr).trans c0
      have b4 : Below w.heap.size w w4 := below_then br hb4
      have ru4 := ru.keep hb4
      have l4 : w.heap.size < w4.heap.size := World.block_lt_of_cell? w4 _ c04
      have H1 := Lib.hid h1
      clear c0 c1 hb4 rr br ru lr h1
      go_wp2_with fail
      refine (fMost_any nodes s t uc N ua (scaleG x es) _ ru4 (Lib.hid hs) hl).mono ?_
      rintro e w5 ⟨m, B3, m3, d3, B4, m4, d4, er2, rfl, h2, hb5⟩
      have b5 : Below w.heap.size w w5 := below_then b4 hb5
      have H2 := Lib.hid h2
      clear h2 hb5
      rcases H1.out with ⟨rfl, g1, g2, g3, g4⟩ | ⟨rfl, g1, g2⟩
      · rcases H2.out with ⟨rfl, q1, q2, q3, q4⟩ | ⟨rfl, q1, q2⟩
        · have hm : m = x * n := IsMost.eq q1 q2 (scale_most x0 g2)
          subst hm
          clear g1 g2 q1 q2 H1 H2
          go_wp2_with fail
          go_ret
          exact ⟨rfl, b5⟩
        · clear g1 g2 q1 q2 H1 H2
          go_wp2_with fail
          go_ret
          exact ⟨rfl, b5⟩
      · clear g1 g2 H1 H2
        go_wp2_with fail
        go_ret
        exact ⟨rfl, b5⟩
end Go.Proofs.Ytcnhkcbkeneobaa
