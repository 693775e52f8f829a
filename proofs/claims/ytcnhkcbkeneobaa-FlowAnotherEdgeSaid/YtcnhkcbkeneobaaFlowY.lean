/-
The law FlowAnotherEdge, walked.
-/
import Derived.Test.YtcnhkcbkeneobaaFlowT2
import Derived.Test.YtcnhkcbkeneobaaFlowY0
namespace Go.Proofs.Ytcnhkcbkeneobaa
open Go.RowKit
set_option linter.unusedVariables false
set_option maxRecDepth 100000 in
set_option maxHeartbeats 8000000 in
theorem walk_FlowAnotherEdge (nodes : Int) (_wn : wf64 nodes) (A : Option Addr) (c N : Nat) (es : List GEdge) {w : World} (hR : Rd 3 encE w A es) (HN : Hid (es.length = N)) (hl : N ≤ 9223372036854775807) (_wz : ∀ e, e ∈ es → wfE e) (s : Int) (_ws : wf64 s) (t : Int) (_wt : wf64 t) (x : Int) (_wx : wf64 x) (y : Int) (_wy : wf64 y) (z : Int) (_wz2 : wf64 z) :
    Calls Try.prog 9 #[.agg #[.int .i64 nodes, .slice A N c], .int .i64 s, .int .i64 t, .int .i64 x, .int .i64 y, .int .i64 z] w fun e w' => e = .returned (.bool true) ∧ Below w.heap.size w w' := by
  have a0 : Below w.heap.size w (w.alloc (.cells #[.int .i64 nodes, .slice A N c] 24)) := (Below.refl _ w).alloc (Nat.le_refl _) _
  go_enter Try.func9, Try.ntmps9
  go_wp2_with fail
  refine (lfHead_any _).mono ?_
  rintro e w1 ⟨rfl, hb1⟩
  have k01 : w1.cell? ⟨w.heap.size, 0, none⟩ = some (.int .i64 nodes) := (hb1.cell (p := ⟨w.heap.size, 0, none⟩) (by simp)).trans (by go_simp)
  have k11 : w1.cell? ⟨w.heap.size, 1, none⟩ = some (.slice A N c) := (hb1.cell (p := ⟨w.heap.size, 1, none⟩) (by simp)).trans (by go_simp)
  have b1 : Below w.heap.size w w1 := below_then a0 hb1
  have l1 : w.heap.size < w1.heap.size := World.block_lt_of_cell? w1 _ k01
  have r1 := hR.keep b1
  clear hb1 a0
  go_wp2_with fail
  refine (rfEnds_any nodes s t A c N es w1 r1 HN.out hl).mono ?_
  rintro e w2 ⟨rfl, hb2⟩
  have k02 : w2.cell? ⟨w.heap.size, 0, none⟩ = some (.int .i64 nodes) := (hb2.cell (p := ⟨w.heap.size, 0, none⟩) l1).trans k01
  have k12 : w2.cell? ⟨w.heap.size, 1, none⟩ = some (.slice A N c) := (hb2.cell (p := ⟨w.heap.size, 1, none⟩) l1).trans k11
  have l2 : w.heap.size < w2.heap.size := World.block_lt_of_cell? w2 _ k02
  have b2 : Below w.heap.size w w2 := below_then b1 hb2
  have r2 := r1.keep hb2
  clear hb2 b1 k01 k11 l1 r1 
  cases hE : okEnds nodes es s t
  · go_wp2_with fail
    go_ret
    exact ⟨rfl, b2⟩
  have HE := Lib.hid hE
  obtain ⟨hok, e1, e2, e3, e4, e5⟩ := okEnds_iff.1 hE
  obtain ⟨n1, n2, hl2⟩ := (okG_iff.1 hok).1
  rw [HN.out] at hl2
  clear hE
  by_cases z0 : 509 < N
  · go_wp2_with fail
    go_ret
    exact ⟨rfl, b2⟩
  by_cases x0 : x < 0
  · go_wp2_with fail
    go_ret
    exact ⟨rfl, b2⟩
  by_cases x1 : 1000000 < x
  · go_wp2_with fail
    go_ret
    exact ⟨rfl, b2⟩
  by_cases y0 : y < 0
  · go_wp2_with fail
    go_ret
    exact ⟨rfl, b2⟩
  by_cases q0 : z < 0
  · go_wp2_with fail
    go_ret
    exact ⟨rfl, b2⟩
  by_cases y1 : nodes ≤ y
  · go_wp2_with fail
    go_ret
    exact ⟨rfl, b2⟩
  by_cases q1 : nodes ≤ z
  · go_wp2_with fail
    go_ret
    exact ⟨rfl, b2⟩
  obtain ⟨mc, hmk, hmcs⟩ := mk_room
  have k1 := k12
  have l := l2
  have r := r2
  clear k12 l2 r2
  go_wp2
  go_cut [15] (fun v W => Hid (OwnE W w2.heap.size v (es ++ [⟨s, t, x⟩])) ∧ Below w2.heap.size w2 W)
  case first => as_aux_lemma =>
    obtain ⟨wa, hwa⟩ : ∃ wa, wa = ((w2.alloc (.cells #[.int .i64 s, .int .i64 t, .int .i64 x] 39)).alloc (.cells mc 39)).drew := ⟨_, rfl⟩
    have ba : Below w2.heap.size w2 wa := by rw [hwa]; exact Below.drew (((Below.refl _ _).alloc (Nat.le_refl _) _).alloc (by simp) _)
    have oa : OwnE wa w2.heap.size (.slice (some ⟨w2.heap.size + 1, 0, none⟩) 0 512) [] := by
      have h := OwnR.made (t := 39) (sz := 3) (enc := encE) (base := w2.heap.size) (w2.alloc (.cells #[.int .i64 s, .int .i64 t, .int .i64 x] 39)) mc 512 (by unfold maxLen; omega) hmcs (by simp)
      rw [World.size_alloc] at h
      rw [hwa]
      exact h
    obtain ⟨pa1, va1, Wa1, pa2, pa3, pa4, va2, Wa2, pa5, pa6, pa7, pa8, pa9⟩ := app_ab (c := c) (L := w2.heap.size) (m := 1) oa (r.keep ba) HN.out (by omega) ba.size (by rw [hwa]; exact (rd_one w2 ⟨s, t, x⟩).keep (Below.drew ((Below.refl _ _).alloc (Nat.le_refl _) _))) rfl (by omega) (by simp [Value.ownBlock])
    have ka1 : Wa1.cell? ⟨w.heap.size, 1, none⟩ = some (.slice A N c) := ((ba.trans pa8).cell (p := ⟨w.heap.size, 1, none⟩) l).trans k1
    have ka2 : Wa2.cell? ⟨w.heap.size, 1, none⟩ = some (.slice A N c) := ((ba.trans pa9).cell (p := ⟨w.heap.size, 1, none⟩) l).trans k1
    have fa := ba.trans pa9
    rw [hwa] at pa1 pa2 pa3
    obtain ⟨wb, hwb⟩ : ∃ wb, wb = ((w2.alloc (.cells mc 39)).alloc (.cells #[.int .i64 s, .int .i64 t, .int .i64 x] 39)).drew := ⟨_, rfl⟩
    have bb : Below w2.heap.size w2 wb := by rw [hwb]; exact Below.drew (((Below.refl _ _).alloc (Nat.le_refl _) _).alloc (by simp) _)
    have om := OwnR.made (t := 39) (sz := 3) (enc := encE) (base := w2.heap.size) w2 mc 512 (by unfold maxLen; omega) hmcs (Nat.le_refl _)
    have ob : OwnE wb w2.heap.size (.slice (some ⟨w2.heap.size, 0, none⟩) 0 512) [] := by
      rw [hwb]
      exact om.alloc _
    obtain ⟨pb1, vb1, Wb1, pb2, pb3, pb4, vb2, Wb2, pb5, pb6, pb7, pb8, pb9⟩ := app_ab (c := c) (L := w2.heap.size + 1) (m := 1) ob (r.keep bb) HN.out (by omega) bb.size (by
      have h := rd_one (w2.alloc (.cells mc 39)) ⟨s, t, x⟩
      rw [World.size_alloc] at h
      rw [hwb]
      exact h) rfl (by omega) (by simp [Value.ownBlock])
    have kb1 : Wb1.cell? ⟨w.heap.size, 1, none⟩ = some (.slice A N c) := ((bb.trans pb8).cell (p := ⟨w.heap.size, 1, none⟩) l).trans k1
    have kb2 : Wb2.cell? ⟨w.heap.size, 1, none⟩ = some (.slice A N c) := ((bb.trans pb9).cell (p := ⟨w.heap.size, 1, none⟩) l).trans k1
    have fb := bb.trans pb9
    rw [hwb] at pb1 pb2 pb3
    obtain ⟨wc', hwc⟩ : ∃ wc', wc' = (w2.alloc (.cells mc 39)).drew := ⟨_, rfl⟩
    have bc : Below w2.heap.size w2 wc' := by rw [hwc]; exact Below.drew ((Below.refl _ _).alloc (Nat.le_refl _) _)
    have oc : OwnE wc' w2.heap.size (.slice (some ⟨w2.heap.size, 0, none⟩) 0 512) [] := by
      rw [hwc]
      exact om
    obtain ⟨pc1, vc1, Wc1, pc2, pc3, pc4, vc2, Wc2, pc5, pc6, pc7, pc8, pc9⟩ := app_c (c := c) (m := 1) (ys := [⟨s, t, x⟩]) (lit := #[.int .i64 s, .int .i64 t, .int .i64 x]) oc (r.keep bc) HN.out (by omega) bc.size (by simp [encE]) rfl (by omega)
    have kc1 : Wc1.cell? ⟨w.heap.size, 1, none⟩ = some (.slice A N c) := ((bc.trans pc8).cell (p := ⟨w.heap.size, 1, none⟩) l).trans k1
    have kc3 : (Wc1.alloc (.cells #[.int .i64 s, .int .i64 t, .int .i64 x] 39)).cell? ⟨w.heap.size, 1, none⟩ = some (.slice A N c) := ((Below.alloc (bc.trans pc8) (bc.trans pc8).size (.cells #[.int .i64 s, .int .i64 t, .int .i64 x] 39)).cell (p := ⟨w.heap.size, 1, none⟩) l).trans k1
    have kc2 : Wc2.cell? ⟨w.heap.size, 1, none⟩ = some (.slice A N c) := ((bc.trans pc9).cell (p := ⟨w.heap.size, 1, none⟩) l).trans k1
    have fc := bc.trans pc9
    rw [hwc] at pc1 pc2 pc3
    clear hwa hwb hwc ba bb bc oa ob oc om pa8 pa9 pb8 pb9 pc8 pc9
    go_region_held3 (fun w' => w'.cell? ⟨w.heap.size, 1, none⟩ = some (.slice A N c)) (first | exact k1 | exact ka1 | exact ka2 | exact kb1 | exact kb2 | exact kc1 | exact kc2 | exact kc3 | (refine Eq.trans (Below.cell (B := w2.heap.size) (w := w2) (p := ⟨w.heap.size, 1, none⟩) ?_ l) k1; repeat (first | exact Below.refl _ _ | refine Below.drew ?_ | refine Below.alloc ?_ (by first | (simp; done) | (simp; omega)) _ | refine Below.setCell ?_ (by first | (simp; done) | (simp; omega)) _))) (fail)
    all_goals
      go_wp2_with fail
      go_meet
      first
        | exact ⟨pa7, fa⟩
        | exact ⟨pb7, fb⟩
        | exact ⟨pc7, fc⟩
  case rest =>
    obtain ⟨HO1, hb3⟩ := hcut
    have k0c : wc.cell? ⟨w.heap.size, 0, none⟩ = some (.int .i64 nodes) := (hb3.cell (p := ⟨w.heap.size, 0, none⟩) l).trans k02
    have k1c : wc.cell? ⟨w.heap.size, 1, none⟩ = some (.slice A N c) := (hb3.cell (p := ⟨w.heap.size, 1, none⟩) l).trans k1
    have rc := r.keep hb3
    have bc0 : Below w.heap.size w wc := below_then b2 hb3
    clear k02 k1 l r b2 hb3
    have k1 := k1c
    have r := rc
    have l : w.heap.size < wc.heap.size := World.block_lt_of_cell? wc _ k0c
    clear k1c rc
    go_wp2
    refine wp_normal (fun K hK => ?_)
    refine anoReg6_ok wc w.heap.size N c A es s t x y z K mc hmk hmcs k1 l r HN (by omega) _ _ _ _ _ _ _ _ _ _ _ _ _ _ _ _ _ _ _ _ _ _ _ _ _ _ _ _ _ _ _ _ _ _ _ _ _ _ _ _ _ _ _ _ _ _ _ _ _ _ _ _ _ _ _ _ _ _ _ _ _ _ _ _ _ _ _ _ _ _ _ _ _ _ _ _ _ _ _ _ _ _ _ _ _ _ _ _ _ _ _ _ _ _ _ _ _ _ _ _ _ _ _ _ _ _ _ _ _ _ _ _ _ _ _ _ _ _ _ _ _ _ _ _ _ _ _ _ _ _ _ _ _ _ _ _ _ _ _ _ _ _ _ _ _ _ _ ?_
    refine Lib.hid ?_
    intro wd v16 v81 v82 v83 v84 v85 v86 v87 v88 v89 v90 v91 v92 v93 v94 HO2 hb4
    refine hK _ _ ?_
    clear hK K hmk hmcs
    have k0d : wd.cell? ⟨w.heap.size, 0, none⟩ = some (.int .i64 nodes) := (hb4.cell (p := ⟨w.heap.size, 0, none⟩) l).trans k0c
    have k1d : wd.cell? ⟨w.heap.size, 1, none⟩ = some (.slice A N c) := (hb4.cell (p := ⟨w.heap.size, 1, none⟩) l).trans k1
    have rd := r.keep hb4
    have bd : Below w.heap.size w wd := below_then bc0 hb4
    have ld : w.heap.size < wd.heap.size := World.block_lt_of_cell? wd _ k0d
    have HO1' := Lib.hid (HO1.out.keep hb4)
    obtain ⟨ua, uc, rfl, ru⟩ := HO1'.out.rd encE_len
    obtain ⟨va, vc, rfl, rv⟩ := HO2.out.rd encE_len
    have hs1 : (es ++ [(⟨s, t, x⟩ : GEdge)]).length = N + 1 := by rw [List.length_append, HN.out]; rfl
    have hs2 : (es ++ [(⟨y, s, x⟩ : GEdge), ⟨t, z, x⟩]).length = N + 2 := by rw [List.length_append, HN.out]; rfl
    rw [hs1, hs2]
    have HE1 : Hid (okEnds nodes (es ++ [⟨s, t, x⟩]) s t = true) := Lib.hid (okEnds_iff.2 ⟨app_ok hok (by rw [HN.out]; simp; omega) (fun e he => by simp at he; subst he; exact okE_iff.2 ⟨e1, e2, e3, e4, by omega, by omega⟩), e1, e2, e3, e4, e5⟩)
    have HE2 : Hid (okEnds nodes (es ++ [⟨y, s, x⟩, ⟨t, z, x⟩]) s t = true) := Lib.hid (okEnds_iff.2 ⟨app_ok hok (by rw [HN.out]; simp; omega) (fun e he => by
      simp at he
      rcases he with he | he
      · subst he; exact okE_iff.2 ⟨by omega, by omega, e1, e2, by omega, by omega⟩
      · subst he; exact okE_iff.2 ⟨e3, e4, by omega, by omega, by omega, by omega⟩), e1, e2, e3, e4, e5⟩)
    clear HO1 HO2 HO1' hb4 k0c k1 r l bc0
    go_wp2_with fail
    refine (fMost_fine nodes s t c N A es wd rd HN HE).mono ?_
    rintro e w4 ⟨n, B1, m1, d1, B2, m2, d2, rfl, h1, n1l, n1h, hb4⟩
    have c04 : w4.cell? ⟨w.heap.size, 0, none⟩ = some (.int .i64 nodes) := (hb4.cell (p := ⟨w.heap.size, 0, none⟩) ld).trans k0d
    have b4 : Below w.heap.size w w4 := below_then bd hb4
    have ru4 := ru.keep hb4
    have rv4 := rv.keep hb4
    have l4 : w.heap.size < w4.heap.size := World.block_lt_of_cell? w4 _ c04
    clear k0d k1d hb4 rd bd ru rv ld
    go_wp2_with fail
    refine (fMost_fine nodes s t uc (N + 1) ua _ _ ru4 (Lib.hid hs1) HE1).mono ?_
    rintro e w5 ⟨m, B3, m3, d3, B4, m4, d4, rfl, h2, n2l, n2h, hb5⟩
    have c05 : w5.cell? ⟨w.heap.size, 0, none⟩ = some (.int .i64 nodes) := (hb5.cell (p := ⟨w.heap.size, 0, none⟩) l4).trans c04
    have b5 : Below w.heap.size w w5 := below_then b4 hb5
    have rv5 := rv4.keep hb5
    clear c04 b4 ru4 rv4 hb5
    go_wp2_with fail
    refine (fMost_fine nodes s t vc (N + 2) va _ _ rv5 (Lib.hid hs2) HE2).mono ?_
    rintro e w6 ⟨m', B5, m5, d5, B6, m6, d6, rfl, h3, n3l, n3h, hb6⟩
    have b6 : Below w.heap.size w w6 := below_then b5 hb6
    obtain rfl : m = n + x := IsMost.eq HE1.out h2.out (one_most e5 (by omega) h1.out)
    obtain rfl : m' = n := IsMost.eq HE2.out h3.out (idle_most (by omega) h1.out)
    clear h1 h2 h3 HE HE1 HE2
    go_wp2_with fail
    go_ret
    exact ⟨rfl, b6⟩
end Go.Proofs.Ytcnhkcbkeneobaa
