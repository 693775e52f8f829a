/-
Law 09: the head.
-/
import Derived.Test.YtbalhbpaholakaaCLimK
namespace Go.Proofs.Ytbalhbpaholakaa
open Go.RowKit
set_option linter.unusedVariables false
set_option linter.unusedSimpArgs false
theorem errT : errO true = 0 := rfl
theorem errF : errO false = 1 := rfl
theorem ex_wb : vioV exS [9, 16] none = .agg #[.int .i64 0, .int .i64 0, .int .i64 0] := rfl
theorem ex_wd : vioV exS [0] none = .agg #[.int .i64 0, .int .i64 0, .int .i64 0] := rfl
set_option maxRecDepth 100000 in
set_option maxHeartbeats 8000000 in
theorem lhHead_any (w : World) : Calls Try.prog 13 #[] w fun e w' => e = .returned (.bool true) ∧ Below w.heap.size w w' := by
  go_enter Try.func13, Try.ntmps13
  go_wp2_with fail
  refine (lhEx_any w).mono ?_
  rintro e w1 ⟨p1, q1, r1, rfl, s1, h1⟩
  have HB := Lib.hid (h1)
  have hs1 := h1.size
  have HS := Lib.hid s1
  clear h1 s1
  go_wp2_with fail
  refine (limLimit_any p1 q1 none r1 none 2 2 1 1 0 0 2 2 0 0 exS 0 w1 HS).mono ?_
  rintro e w2 ⟨rfl, h2⟩
  have HB := Lib.hid (below_then HB.out h2)
  have hs2 := h2.size
  clear h2 HS
  rw [ex_o0, ex_l0, errT]
  go_wp2_with fail
  refine (lhEx_any w2).mono ?_
  rintro e w3 ⟨p3, q3, r3, rfl, s3, h3⟩
  have HB := Lib.hid (below_then HB.out h3)
  have hs3 := h3.size
  have HS := Lib.hid s3
  clear h3 s3
  go_wp2_with fail
  refine (limLimit_any p3 q3 none r3 none 2 2 1 1 0 0 2 2 0 0 exS 1 w3 HS).mono ?_
  rintro e w4 ⟨rfl, h4⟩
  have HB := Lib.hid (below_then HB.out h4)
  have hs4 := h4.size
  clear h4 HS
  rw [ex_o1, ex_l1, errT]
  go_wp2_with fail
  refine (lhEx_any w4).mono ?_
  rintro e w5 ⟨p5, q5, r5, rfl, s5, h5⟩
  have HB := Lib.hid (below_then HB.out h5)
  have hs5 := h5.size
  have HS := Lib.hid s5
  clear h5 s5
  go_wp2_with fail
  refine (limLimit_any p5 q5 none r5 none 2 2 1 1 0 0 2 2 0 0 exS 2 w5 HS).mono ?_
  rintro e w6 ⟨rfl, h6⟩
  have HB := Lib.hid (below_then HB.out h6)
  have hs6 := h6.size
  clear h6 HS
  rw [ex_o2, ex_l2, errF]
  go_wp2_with fail
  refine (lhEx_any w6).mono ?_
  rintro e w7 ⟨p7, q7, r7, rfl, s7, h7⟩
  have HB := Lib.hid (below_then HB.out h7)
  have hs7 := h7.size
  have HS := Lib.hid s7
  clear h7 s7
  go_wp2_with fail
  refine (limRows_any p7 q7 none r7 none 2 2 1 1 0 0 2 2 0 0 exS w7 HS).mono ?_
  rintro e w8 ⟨pr, cr, hr, rfl, t8, h8⟩
  have HB := Lib.hid (below_then HB.out h8)
  have hs8 := h8.size
  rw [ex_rows] at t8
  have HRW := Lib.hid t8
  clear h8 HS t8
  rw [exS_B, ex_rows, errT]
  go_wp2_with fail
  refine (lhEx_any w8).mono ?_
  rintro e w9 ⟨p9, q9, r9, rfl, s9, h9⟩
  have HB := Lib.hid (below_then HB.out h9)
  have hs9 := h9.size
  have HRW := Lib.hid (HRW.out.keep h9)
  have HS := Lib.hid s9
  clear h9 s9
  go_wp2_with fail
  obtain ⟨W10, hW10⟩ : ∃ W, W = w9.alloc (.cells #[.int .i64 10, .int .i64 16] 3) := ⟨_, rfl⟩
  have h10 : Below w9.heap.size w9 W10 := by rw [hW10]; exact (Below.refl _ _).alloc (Nat.le_refl _) _
  have hx10 := Lib.hid (rd_litI w9 #[.int .i64 10, .int .i64 16] [10, 16] rfl)
  rw [← hW10] at hx10 ⊢
  have HB := Lib.hid (below_then HB.out h10)
  have HS := Lib.hid (HS.out.keep h10)
  have HRW := Lib.hid (HRW.out.keep h10)
  have hs10 := h10.size
  clear h10 hW10
  refine (limCheck_any p9 q9 none r9 none 2 2 1 1 0 0 2 2 0 0 (some ⟨w9.heap.size, 0, none⟩) 2 2 exS [10, 16] W10 HS hx10 (Lib.hid rfl) (by omega)).mono ?_
  rintro e w11 ⟨rfl, h11⟩
  have HB := Lib.hid (below_then HB.out h11)
  have HRW := Lib.hid (HRW.out.keep h11)
  have hs11 := h11.size
  clear h11 HS hx10
  rw [ex_va, ex_a]
  rw [ex_wa, errT]
  go_wp2_with fail
  obtain ⟨W12, hW12⟩ : ∃ W, W = w11.alloc (.cells #[.int .i64 0, .int .i64 0, .int .i64 26] 39) := ⟨_, rfl⟩
  have h12 : Below w11.heap.size w11 W12 := by rw [hW12]; exact (Below.refl _ _).alloc (Nat.le_refl _) _
  have v12a : W12.cell? ⟨w11.heap.size, 0, none⟩ = some (.int .i64 0) := by rw [hW12]; go_simp
  have v12b : W12.cell? ⟨w11.heap.size, 1, none⟩ = some (.int .i64 0) := by rw [hW12]; go_simp
  have v12c : W12.cell? ⟨w11.heap.size, 2, none⟩ = some (.int .i64 26) := by rw [hW12]; go_simp
  have hz12 : W12.heap.size = w11.heap.size + 1 := by rw [hW12]; simp
  rw [← hW12]
  have HB := Lib.hid (below_then HB.out h12)
  have hs12 := h12.size
  have HRW := Lib.hid (HRW.out.keep h12)
  clear h12 hW12
  refine (lhEx_any W12).mono ?_
  rintro e w13 ⟨p13, q13, r13, rfl, s13, h13⟩
  have HB := Lib.hid (below_then HB.out h13)
  have hs13 := h13.size
  have HRW := Lib.hid (HRW.out.keep h13)
  have v12a := (h13.cell (p := ⟨w11.heap.size, 0, none⟩) (World.block_lt_of_cell? _ _ v12a)).trans v12a
  have v12b := (h13.cell (p := ⟨w11.heap.size, 1, none⟩) (World.block_lt_of_cell? _ _ v12b)).trans v12b
  have v12c := (h13.cell (p := ⟨w11.heap.size, 2, none⟩) (World.block_lt_of_cell? _ _ v12c)).trans v12c
  have HS := Lib.hid s13
  clear h13 s13
  go_wp2_with fail
  obtain ⟨W14, hW14⟩ : ∃ W, W = w13.alloc (.cells #[.int .i64 9, .int .i64 16] 3) := ⟨_, rfl⟩
  have h14 : Below w13.heap.size w13 W14 := by rw [hW14]; exact (Below.refl _ _).alloc (Nat.le_refl _) _
  have hx14 := Lib.hid (rd_litI w13 #[.int .i64 9, .int .i64 16] [9, 16] rfl)
  rw [← hW14] at hx14 ⊢
  have HB := Lib.hid (below_then HB.out h14)
  have HS := Lib.hid (HS.out.keep h14)
  have HRW := Lib.hid (HRW.out.keep h14)
  have v12a := (h14.cell (p := ⟨w11.heap.size, 0, none⟩) (World.block_lt_of_cell? _ _ v12a)).trans v12a
  have v12b := (h14.cell (p := ⟨w11.heap.size, 1, none⟩) (World.block_lt_of_cell? _ _ v12b)).trans v12b
  have v12c := (h14.cell (p := ⟨w11.heap.size, 2, none⟩) (World.block_lt_of_cell? _ _ v12c)).trans v12c
  have hs14 := h14.size
  clear h14 hW14
  refine (limCheck_any p13 q13 none r13 none 2 2 1 1 0 0 2 2 0 0 (some ⟨w13.heap.size, 0, none⟩) 2 2 exS [9, 16] W14 HS hx14 (Lib.hid rfl) (by omega)).mono ?_
  rintro e w15 ⟨rfl, h15⟩
  have HB := Lib.hid (below_then HB.out h15)
  have HRW := Lib.hid (HRW.out.keep h15)
  have v12a := (h15.cell (p := ⟨w11.heap.size, 0, none⟩) (World.block_lt_of_cell? _ _ v12a)).trans v12a
  have v12b := (h15.cell (p := ⟨w11.heap.size, 1, none⟩) (World.block_lt_of_cell? _ _ v12b)).trans v12b
  have v12c := (h15.cell (p := ⟨w11.heap.size, 2, none⟩) (World.block_lt_of_cell? _ _ v12c)).trans v12c
  have hs15 := h15.size
  clear h15 HS hx14
  rw [ex_vb, ex_b]
  rw [ex_wb, errT]
  go_wp2_with fail
  obtain ⟨W16, hW16⟩ : ∃ W, W = w15.alloc (.cells #[.int .i64 0, .int .i64 0, .int .i64 0] 39) := ⟨_, rfl⟩
  have h16 : Below w15.heap.size w15 W16 := by rw [hW16]; exact (Below.refl _ _).alloc (Nat.le_refl _) _
  have v16a : W16.cell? ⟨w15.heap.size, 0, none⟩ = some (.int .i64 0) := by rw [hW16]; go_simp
  have v16b : W16.cell? ⟨w15.heap.size, 1, none⟩ = some (.int .i64 0) := by rw [hW16]; go_simp
  have v16c : W16.cell? ⟨w15.heap.size, 2, none⟩ = some (.int .i64 0) := by rw [hW16]; go_simp
  have hz16 : W16.heap.size = w15.heap.size + 1 := by rw [hW16]; simp
  rw [← hW16]
  have HB := Lib.hid (below_then HB.out h16)
  have hs16 := h16.size
  have HRW := Lib.hid (HRW.out.keep h16)
  have v12a := (h16.cell (p := ⟨w11.heap.size, 0, none⟩) (World.block_lt_of_cell? _ _ v12a)).trans v12a
  have v12b := (h16.cell (p := ⟨w11.heap.size, 1, none⟩) (World.block_lt_of_cell? _ _ v12b)).trans v12b
  have v12c := (h16.cell (p := ⟨w11.heap.size, 2, none⟩) (World.block_lt_of_cell? _ _ v12c)).trans v12c
  clear h16 hW16
  refine (lhEx_any W16).mono ?_
  rintro e w17 ⟨p17, q17, r17, rfl, s17, h17⟩
  have HB := Lib.hid (below_then HB.out h17)
  have hs17 := h17.size
  have HRW := Lib.hid (HRW.out.keep h17)
  have v12a := (h17.cell (p := ⟨w11.heap.size, 0, none⟩) (World.block_lt_of_cell? _ _ v12a)).trans v12a
  have v12b := (h17.cell (p := ⟨w11.heap.size, 1, none⟩) (World.block_lt_of_cell? _ _ v12b)).trans v12b
  have v12c := (h17.cell (p := ⟨w11.heap.size, 2, none⟩) (World.block_lt_of_cell? _ _ v12c)).trans v12c
  have HS := Lib.hid s17
  clear h17 s17
  go_wp2_with fail
  obtain ⟨W18, hW18⟩ : ∃ W, W = w17.alloc (.cells #[.int .i64 0, .int .i64 17] 3) := ⟨_, rfl⟩
  have h18 : Below w17.heap.size w17 W18 := by rw [hW18]; exact (Below.refl _ _).alloc (Nat.le_refl _) _
  have hx18 := Lib.hid (rd_litI w17 #[.int .i64 0, .int .i64 17] [0, 17] rfl)
  rw [← hW18] at hx18 ⊢
  have HB := Lib.hid (below_then HB.out h18)
  have HS := Lib.hid (HS.out.keep h18)
  have HRW := Lib.hid (HRW.out.keep h18)
  have v12a := (h18.cell (p := ⟨w11.heap.size, 0, none⟩) (World.block_lt_of_cell? _ _ v12a)).trans v12a
  have v12b := (h18.cell (p := ⟨w11.heap.size, 1, none⟩) (World.block_lt_of_cell? _ _ v12b)).trans v12b
  have v12c := (h18.cell (p := ⟨w11.heap.size, 2, none⟩) (World.block_lt_of_cell? _ _ v12c)).trans v12c
  have hs18 := h18.size
  clear h18 hW18
  refine (limCheck_any p17 q17 none r17 none 2 2 1 1 0 0 2 2 0 0 (some ⟨w17.heap.size, 0, none⟩) 2 2 exS [0, 17] W18 HS hx18 (Lib.hid rfl) (by omega)).mono ?_
  rintro e w19 ⟨rfl, h19⟩
  have HB := Lib.hid (below_then HB.out h19)
  have HRW := Lib.hid (HRW.out.keep h19)
  have v12a := (h19.cell (p := ⟨w11.heap.size, 0, none⟩) (World.block_lt_of_cell? _ _ v12a)).trans v12a
  have v12b := (h19.cell (p := ⟨w11.heap.size, 1, none⟩) (World.block_lt_of_cell? _ _ v12b)).trans v12b
  have v12c := (h19.cell (p := ⟨w11.heap.size, 2, none⟩) (World.block_lt_of_cell? _ _ v12c)).trans v12c
  have hs19 := h19.size
  clear h19 HS hx18
  rw [ex_vc, ex_c]
  rw [ex_wc, errT]
  go_wp2_with fail
  obtain ⟨W20, hW20⟩ : ∃ W, W = w19.alloc (.cells #[.int .i64 1, .int .i64 0, .int .i64 17] 39) := ⟨_, rfl⟩
  have h20 : Below w19.heap.size w19 W20 := by rw [hW20]; exact (Below.refl _ _).alloc (Nat.le_refl _) _
  have v20a : W20.cell? ⟨w19.heap.size, 0, none⟩ = some (.int .i64 1) := by rw [hW20]; go_simp
  have v20b : W20.cell? ⟨w19.heap.size, 1, none⟩ = some (.int .i64 0) := by rw [hW20]; go_simp
  have v20c : W20.cell? ⟨w19.heap.size, 2, none⟩ = some (.int .i64 17) := by rw [hW20]; go_simp
  have hz20 : W20.heap.size = w19.heap.size + 1 := by rw [hW20]; simp
  rw [← hW20]
  have HB := Lib.hid (below_then HB.out h20)
  have hs20 := h20.size
  have HRW := Lib.hid (HRW.out.keep h20)
  have v12a := (h20.cell (p := ⟨w11.heap.size, 0, none⟩) (World.block_lt_of_cell? _ _ v12a)).trans v12a
  have v12b := (h20.cell (p := ⟨w11.heap.size, 1, none⟩) (World.block_lt_of_cell? _ _ v12b)).trans v12b
  have v12c := (h20.cell (p := ⟨w11.heap.size, 2, none⟩) (World.block_lt_of_cell? _ _ v12c)).trans v12c
  clear h20 hW20
  refine (lhEx_any W20).mono ?_
  rintro e w21 ⟨p21, q21, r21, rfl, s21, h21⟩
  have HB := Lib.hid (below_then HB.out h21)
  have hs21 := h21.size
  have HRW := Lib.hid (HRW.out.keep h21)
  have v12a := (h21.cell (p := ⟨w11.heap.size, 0, none⟩) (World.block_lt_of_cell? _ _ v12a)).trans v12a
  have v12b := (h21.cell (p := ⟨w11.heap.size, 1, none⟩) (World.block_lt_of_cell? _ _ v12b)).trans v12b
  have v12c := (h21.cell (p := ⟨w11.heap.size, 2, none⟩) (World.block_lt_of_cell? _ _ v12c)).trans v12c
  have v20a := (h21.cell (p := ⟨w19.heap.size, 0, none⟩) (World.block_lt_of_cell? _ _ v20a)).trans v20a
  have v20b := (h21.cell (p := ⟨w19.heap.size, 1, none⟩) (World.block_lt_of_cell? _ _ v20b)).trans v20b
  have v20c := (h21.cell (p := ⟨w19.heap.size, 2, none⟩) (World.block_lt_of_cell? _ _ v20c)).trans v20c
  have HS := Lib.hid s21
  clear h21 s21
  go_wp2_with fail
  obtain ⟨W22, hW22⟩ : ∃ W, W = w21.alloc (.cells #[.int .i64 0] 3) := ⟨_, rfl⟩
  have h22 : Below w21.heap.size w21 W22 := by rw [hW22]; exact (Below.refl _ _).alloc (Nat.le_refl _) _
  have hx22 := Lib.hid (rd_litI w21 #[.int .i64 0] [0] rfl)
  rw [← hW22] at hx22 ⊢
  have HB := Lib.hid (below_then HB.out h22)
  have HS := Lib.hid (HS.out.keep h22)
  have HRW := Lib.hid (HRW.out.keep h22)
  have v12a := (h22.cell (p := ⟨w11.heap.size, 0, none⟩) (World.block_lt_of_cell? _ _ v12a)).trans v12a
  have v12b := (h22.cell (p := ⟨w11.heap.size, 1, none⟩) (World.block_lt_of_cell? _ _ v12b)).trans v12b
  have v12c := (h22.cell (p := ⟨w11.heap.size, 2, none⟩) (World.block_lt_of_cell? _ _ v12c)).trans v12c
  have v20a := (h22.cell (p := ⟨w19.heap.size, 0, none⟩) (World.block_lt_of_cell? _ _ v20a)).trans v20a
  have v20b := (h22.cell (p := ⟨w19.heap.size, 1, none⟩) (World.block_lt_of_cell? _ _ v20b)).trans v20b
  have v20c := (h22.cell (p := ⟨w19.heap.size, 2, none⟩) (World.block_lt_of_cell? _ _ v20c)).trans v20c
  have hs22 := h22.size
  clear h22 hW22
  refine (limCheck_any p21 q21 none r21 none 2 2 1 1 0 0 2 2 0 0 (some ⟨w21.heap.size, 0, none⟩) 1 1 exS [0] W22 HS hx22 (Lib.hid rfl) (by omega)).mono ?_
  rintro e w23 ⟨rfl, h23⟩
  have HB := Lib.hid (below_then HB.out h23)
  have HRW := Lib.hid (HRW.out.keep h23)
  have v12a := (h23.cell (p := ⟨w11.heap.size, 0, none⟩) (World.block_lt_of_cell? _ _ v12a)).trans v12a
  have v12b := (h23.cell (p := ⟨w11.heap.size, 1, none⟩) (World.block_lt_of_cell? _ _ v12b)).trans v12b
  have v12c := (h23.cell (p := ⟨w11.heap.size, 2, none⟩) (World.block_lt_of_cell? _ _ v12c)).trans v12c
  have v20a := (h23.cell (p := ⟨w19.heap.size, 0, none⟩) (World.block_lt_of_cell? _ _ v20a)).trans v20a
  have v20b := (h23.cell (p := ⟨w19.heap.size, 1, none⟩) (World.block_lt_of_cell? _ _ v20b)).trans v20b
  have v20c := (h23.cell (p := ⟨w19.heap.size, 2, none⟩) (World.block_lt_of_cell? _ _ v20c)).trans v20c
  have hs23 := h23.size
  clear h23 HS hx22
  rw [ex_vd, ex_d]
  rw [ex_wd, errF]
  go_wp2_with fail
  obtain ⟨W24, hW24⟩ : ∃ W, W = w23.alloc (.cells #[.int .i64 0, .int .i64 0, .int .i64 0] 39) := ⟨_, rfl⟩
  have h24 : Below w23.heap.size w23 W24 := by rw [hW24]; exact (Below.refl _ _).alloc (Nat.le_refl _) _
  have v24a : W24.cell? ⟨w23.heap.size, 0, none⟩ = some (.int .i64 0) := by rw [hW24]; go_simp
  have v24b : W24.cell? ⟨w23.heap.size, 1, none⟩ = some (.int .i64 0) := by rw [hW24]; go_simp
  have v24c : W24.cell? ⟨w23.heap.size, 2, none⟩ = some (.int .i64 0) := by rw [hW24]; go_simp
  have hz24 : W24.heap.size = w23.heap.size + 1 := by rw [hW24]; simp
  rw [← hW24]
  have HB := Lib.hid (below_then HB.out h24)
  have hs24 := h24.size
  have HRW := Lib.hid (HRW.out.keep h24)
  have v12a := (h24.cell (p := ⟨w11.heap.size, 0, none⟩) (World.block_lt_of_cell? _ _ v12a)).trans v12a
  have v12b := (h24.cell (p := ⟨w11.heap.size, 1, none⟩) (World.block_lt_of_cell? _ _ v12b)).trans v12b
  have v12c := (h24.cell (p := ⟨w11.heap.size, 2, none⟩) (World.block_lt_of_cell? _ _ v12c)).trans v12c
  have v20a := (h24.cell (p := ⟨w19.heap.size, 0, none⟩) (World.block_lt_of_cell? _ _ v20a)).trans v20a
  have v20b := (h24.cell (p := ⟨w19.heap.size, 1, none⟩) (World.block_lt_of_cell? _ _ v20b)).trans v20b
  have v20c := (h24.cell (p := ⟨w19.heap.size, 2, none⟩) (World.block_lt_of_cell? _ _ v20c)).trans v20c
  clear h24 hW24
  obtain ⟨WL, hWL⟩ : ∃ WL, WL = ((((W24.alloc (.cells #[.int .i64 0, .int .i64 1] 3)).alloc (.cells #[.int .i64 1] 3)).alloc (.cells #[.int .i64 1] 3)).alloc (.cells #[.int .i64 1] 3)).alloc (.cells #[.int .i64 25, .slice (some ⟨w23.heap.size + 1, 0, none⟩) 2 2, .int .i64 25, .slice (some ⟨w23.heap.size + 1 + 1, 0, none⟩) 1 1, .int .i64 16, .slice (some ⟨w23.heap.size + 1 + 1 + 1, 0, none⟩) 1 1, .int .i64 16, .slice (some ⟨w23.heap.size + 1 + 1 + 1 + 1, 0, none⟩) 1 1] 47) := ⟨_, rfl⟩
  have al : ∀ (W : World) (o : Obj), Below W.heap.size W (W.alloc o) := fun W o => (Below.refl _ W).alloc (Nat.le_refl _) _
  have rd0 : Rd 1 encI WL (some ⟨w23.heap.size + 1, 0, none⟩) [0, 1] := by
    have h := rd_litI W24 #[.int .i64 0, .int .i64 1] [0, 1] rfl
    rw [hz24] at h
    rw [hWL]
    exact ((((h.keep (al _ _)).keep (al _ _)).keep (al _ _)).keep (al _ _))
  have rd1 : Rd 1 encI WL (some ⟨w23.heap.size + 1 + 1, 0, none⟩) [1] := by
    have h := rd_litI (W24.alloc (.cells #[.int .i64 0, .int .i64 1] 3)) #[.int .i64 1] [1] rfl
    rw [World.size_alloc, hz24] at h
    rw [hWL]
    exact (((h.keep (al _ _)).keep (al _ _)).keep (al _ _))
  have rd2 : Rd 1 encI WL (some ⟨w23.heap.size + 1 + 1 + 1, 0, none⟩) [1] := by
    have h := rd_litI ((W24.alloc (.cells #[.int .i64 0, .int .i64 1] 3)).alloc (.cells #[.int .i64 1] 3)) #[.int .i64 1] [1] rfl
    rw [World.size_alloc, World.size_alloc, hz24] at h
    rw [hWL]
    exact ((h.keep (al _ _)).keep (al _ _))
  have rd3 : Rd 1 encI WL (some ⟨w23.heap.size + 1 + 1 + 1 + 1, 0, none⟩) [1] := by
    have h := rd_litI (((W24.alloc (.cells #[.int .i64 0, .int .i64 1] 3)).alloc (.cells #[.int .i64 1] 3)).alloc (.cells #[.int .i64 1] 3)) #[.int .i64 1] [1] rfl
    rw [World.size_alloc, World.size_alloc, World.size_alloc, hz24] at h
    rw [hWL]
    exact (h.keep (al _ _))
  have rk : Rd 2 encHd WL (some ⟨w23.heap.size + 1 + 1 + 1 + 1 + 1, 0, none⟩) [((25, some ⟨w23.heap.size + 1, 0, none⟩, 2, 2) : RowH), ((25, some ⟨w23.heap.size + 1 + 1, 0, none⟩, 1, 1) : RowH), ((16, some ⟨w23.heap.size + 1 + 1 + 1, 0, none⟩, 1, 1) : RowH), ((16, some ⟨w23.heap.size + 1 + 1 + 1 + 1, 0, none⟩, 1, 1) : RowH)] := by
    have h := rd_lit (sz := 2) (enc := encHd) encHd_len ((((W24.alloc (.cells #[.int .i64 0, .int .i64 1] 3)).alloc (.cells #[.int .i64 1] 3)).alloc (.cells #[.int .i64 1] 3)).alloc (.cells #[.int .i64 1] 3)) 47 #[.int .i64 25, .slice (some ⟨w23.heap.size + 1, 0, none⟩) 2 2, .int .i64 25, .slice (some ⟨w23.heap.size + 1 + 1, 0, none⟩) 1 1, .int .i64 16, .slice (some ⟨w23.heap.size + 1 + 1 + 1, 0, none⟩) 1 1, .int .i64 16, .slice (some ⟨w23.heap.size + 1 + 1 + 1 + 1, 0, none⟩) 1 1] [((25, some ⟨w23.heap.size + 1, 0, none⟩, 2, 2) : RowH), ((25, some ⟨w23.heap.size + 1 + 1, 0, none⟩, 1, 1) : RowH), ((16, some ⟨w23.heap.size + 1 + 1 + 1, 0, none⟩, 1, 1) : RowH), ((16, some ⟨w23.heap.size + 1 + 1 + 1 + 1, 0, none⟩, 1, 1) : RowH)] rfl
    rw [World.size_alloc, World.size_alloc, World.size_alloc, World.size_alloc, hz24] at h
    rw [hWL]
    exact h
  have hbl : Below W24.heap.size W24 WL := by
    rw [hWL]
    exact (((((Below.refl _ W24).alloc (Nat.le_refl _) _).alloc (by simp) _).alloc (by simp; omega) _).alloc (by simp; omega) _).alloc (by simp; omega) _
  have HK : Hid (RdRows WL (some ⟨w23.heap.size + 1 + 1 + 1 + 1 + 1, 0, none⟩) [((25, some ⟨w23.heap.size + 1, 0, none⟩, 2, 2) : RowH), ((25, some ⟨w23.heap.size + 1 + 1, 0, none⟩, 1, 1) : RowH), ((16, some ⟨w23.heap.size + 1 + 1 + 1, 0, none⟩, 1, 1) : RowH), ((16, some ⟨w23.heap.size + 1 + 1 + 1 + 1, 0, none⟩, 1, 1) : RowH)] [(⟨25, [0, 1]⟩ : GRow), ⟨25, [1]⟩, ⟨16, [1]⟩, ⟨16, [1]⟩]) := Lib.hid ⟨rk, rfl, fun k h r hx hr => by
    match k, hx, hr with
    | 0, hx, hr => cases hx; cases hr; exact ⟨rfl, rfl, rd0⟩
    | 1, hx, hr => cases hx; cases hr; exact ⟨rfl, rfl, rd1⟩
    | 2, hx, hr => cases hx; cases hr; exact ⟨rfl, rfl, rd2⟩
    | 3, hx, hr => cases hx; cases hr; exact ⟨rfl, rfl, rd3⟩
    | k + 4, hx, hr => cases hx⟩
  have HB := Lib.hid (below_then HB.out hbl)
  have HRW := Lib.hid (HRW.out.keep hbl)
  have v12a := (hbl.cell (p := ⟨w11.heap.size, 0, none⟩) (World.block_lt_of_cell? _ _ v12a)).trans v12a
  have v12b := (hbl.cell (p := ⟨w11.heap.size, 1, none⟩) (World.block_lt_of_cell? _ _ v12b)).trans v12b
  have v12c := (hbl.cell (p := ⟨w11.heap.size, 2, none⟩) (World.block_lt_of_cell? _ _ v12c)).trans v12c
  have v20a := (hbl.cell (p := ⟨w19.heap.size, 0, none⟩) (World.block_lt_of_cell? _ _ v20a)).trans v20a
  have v20b := (hbl.cell (p := ⟨w19.heap.size, 1, none⟩) (World.block_lt_of_cell? _ _ v20b)).trans v20b
  have v20c := (hbl.cell (p := ⟨w19.heap.size, 2, none⟩) (World.block_lt_of_cell? _ _ v20c)).trans v20c
  rw [← hWL]
  clear hWL rd0 rd1 rd2 rd3 rk hbl al
  refine (r9Same_any pr (some ⟨w23.heap.size + 1 + 1 + 1 + 1 + 1, 0, none⟩) 4 cr 4 4 hr [((25, some ⟨w23.heap.size + 1, 0, none⟩, 2, 2) : RowH), ((25, some ⟨w23.heap.size + 1 + 1, 0, none⟩, 1, 1) : RowH), ((16, some ⟨w23.heap.size + 1 + 1 + 1, 0, none⟩, 1, 1) : RowH), ((16, some ⟨w23.heap.size + 1 + 1 + 1 + 1, 0, none⟩, 1, 1) : RowH)] [(⟨25, [0, 1]⟩ : GRow), ⟨25, [1]⟩, ⟨16, [1]⟩, ⟨16, [1]⟩] [(⟨25, [0, 1]⟩ : GRow), ⟨25, [1]⟩, ⟨16, [1]⟩, ⟨16, [1]⟩] WL HRW HK (Lib.hid rfl) (Lib.hid rfl) (by omega) (Lib.hid (fun r hr => by
    simp only [List.mem_cons, List.not_mem_nil, or_false] at hr
    rcases hr with rfl | rfl | rfl | rfl <;> simp))).mono ?_
  rintro e w' ⟨rfl, hb'⟩
  have HB := Lib.hid (below_then HB.out hb')
  rw [decide_eq_true rfl]
  have HRW := Lib.hid (HRW.out.keep hb')
  have v12a := (hb'.cell (p := ⟨w11.heap.size, 0, none⟩) (World.block_lt_of_cell? _ _ v12a)).trans v12a
  have v12b := (hb'.cell (p := ⟨w11.heap.size, 1, none⟩) (World.block_lt_of_cell? _ _ v12b)).trans v12b
  have v12c := (hb'.cell (p := ⟨w11.heap.size, 2, none⟩) (World.block_lt_of_cell? _ _ v12c)).trans v12c
  have v20a := (hb'.cell (p := ⟨w19.heap.size, 0, none⟩) (World.block_lt_of_cell? _ _ v20a)).trans v20a
  have v20b := (hb'.cell (p := ⟨w19.heap.size, 1, none⟩) (World.block_lt_of_cell? _ _ v20b)).trans v20b
  have v20c := (hb'.cell (p := ⟨w19.heap.size, 2, none⟩) (World.block_lt_of_cell? _ _ v20c)).trans v20c
  clear hb' HK HRW
  go_wp2_with fail
  go_ret
  exact ⟨rfl, HB.out⟩
end Go.Proofs.Ytbalhbpaholakaa
