/-
Law 10: the head.
-/
import Derived.Test.YtbjmpfchapggfaaGreatGLPrP
import Derived.Test.YtbjmpfchapggfaaGreatCPrB
import Derived.Test.YtbjmpfchapggfaaGreatGLPrV
import Derived.Test.YtbjmpfchapggfaaGreatGLRefA
namespace Go.Proofs.YtbjmpfchapggfaaGreat
open Go.RowKit
set_option linter.unusedVariables false
set_option linter.unusedSimpArgs false
theorem rd_lt {α : Type} {sz : Nat} {enc : α → List Value} {w : World} {A : Option Addr} {xs : List α} (h : Rd sz enc w A xs) (h0 : 0 < xs.length) : ∀ a, A = some a → a.block < w.heap.size := by
  intro a ha
  obtain ⟨b, off, x, hA, hb, _⟩ := h.at_ h0
  rw [ha] at hA
  injection hA with hA
  subst hA
  exact hb
set_option maxRecDepth 100000 in
set_option maxHeartbeats 16000000 in
theorem ltenHead_any (w : World) : Calls Tryz.prog 6 #[] w fun e w' => e = .returned (.bool true) ∧ Below w.heap.size w w' := by
  obtain ⟨W0, hW0⟩ : ∃ W0, W0 = w.alloc (.cells #[.int .i64 32, .int .i64 16, .int .i64 20] 3) := ⟨_, rfl⟩
  have hx0 := rd_litI w #[.int .i64 32, .int .i64 16, .int .i64 20] [32, 16, 20] rfl
  have hb0 : Below w.heap.size w (w.alloc (.cells #[.int .i64 32, .int .i64 16, .int .i64 20] 3)) := (Below.refl _ w).alloc (Nat.le_refl _) _
  rw [← hW0] at hx0 hb0
  have HX : Hid (Rd 1 encI W0 (some ⟨w.heap.size, 0, none⟩) pkT) := Lib.hid hx0
  have HB := Lib.hid hb0
  have HW0 := Lib.hid hW0
  clear hx0 hb0 hW0
  go_enter Tryz.func6, Tryz.ntmps6
  go_wp2_with fail
  rw [← HW0.out]
  clear HW0
  obtain ⟨T, hT⟩ : ∃ T, T = w.heap.size := ⟨_, rfl⟩
  rw [← hT] at HX ⊢
  have HSZ : Hid (w.heap.size = T) := Lib.hid hT.symm
  clear hT
  refine (ltenPark_any 50 W0).mono ?_
  rintro e w1 ⟨a1, c1, a2, c2, a4, c4, rfl, hs, hb, -, -, -⟩
  have HS := Lib.hid hs
  have HB := Lib.hid (below_then HB.out hb)
  have HX := Lib.hid (HX.out.keep hb)
  clear hs hb
  go_wp2_with fail
  refine (prProve_any a1 a2 none a4 none 1 c1 1 c2 0 0 3 c4 0 0 (some ⟨T, 0, none⟩) 3 3 (pkS 50) pkT w1 HS HX (Lib.hid rfl) (by omega)).mono ?_
  rintro e w2 ⟨ap2, np, cp2, aw2, nw, cw2, ps, ws, er, rfl, hp, hpl, hw, hwl, hR, hb⟩
  obtain ⟨rfl, rfl, rfl⟩ := pk_prove50 hR.out
  obtain rfl : 0 = np := hpl
  obtain rfl : 3 = nw := hwl
  have HB := Lib.hid (below_then HB.out hb)
  have HWT := Lib.hid hw
  have HX := Lib.hid (HX.out.keep hb)
  clear hp hw hR hb HS
  go_wp2_with fail
  obtain ⟨W3, hW3⟩ : ∃ W, W = w2.alloc (.cells #[.slice ap2 0 cp2] 32) := ⟨_, rfl⟩
  have hb : Below w2.heap.size w2 W3 := by rw [hW3]; exact (Below.refl _ _).alloc (Nat.le_refl _) _
  have kb2 : W3.cell? ⟨w2.heap.size, 0, none⟩ = some (.slice ap2 0 cp2) := by rw [hW3]; go_simp
  rw [← hW3]
  have HB := Lib.hid (below_then HB.out hb)
  have HWT := Lib.hid (HWT.out.keep hb)
  have HX := Lib.hid (HX.out.keep hb)
  clear hb hW3
  obtain ⟨X2, hX2⟩ : ∃ X2, X2 = w2.heap.size := ⟨_, rfl⟩
  rw [← hX2] at kb2 ⊢
  clear hX2
  refine (ltenPark_any 68 W3).mono ?_
  rintro e w4 ⟨a1, c1, a2, c2, a4, c4, rfl, hs, hb, -, -, -⟩
  have HS := Lib.hid hs
  have HB := Lib.hid (below_then HB.out hb)
  have HX := Lib.hid (HX.out.keep hb)
  have kb2 := (hb.cell (p := ⟨X2, 0, none⟩) (World.block_lt_of_cell? _ _ kb2)).trans kb2
  have HWT := Lib.hid (HWT.out.keep hb)
  clear hs hb
  go_wp2_with fail
  refine (prProve_any a1 a2 none a4 none 1 c1 1 c2 0 0 3 c4 0 0 (some ⟨T, 0, none⟩) 3 3 (pkS 68) pkT w4 HS HX (Lib.hid rfl) (by omega)).mono ?_
  rintro e w5 ⟨ap5, np, cp5, aw5, nw, cw5, ps, ws, er, rfl, hp, hpl, hw, hwl, hR, hb⟩
  obtain ⟨rfl, rfl, rfl⟩ := pk_prove68 hR.out
  obtain rfl : 1 = np := hpl
  obtain rfl : 0 = nw := hwl
  have HB := Lib.hid (below_then HB.out hb)
  have HPS := Lib.hid hp
  have HX := Lib.hid (HX.out.keep hb)
  have kb2 := (hb.cell (p := ⟨X2, 0, none⟩) (World.block_lt_of_cell? _ _ kb2)).trans kb2
  have HWT := Lib.hid (HWT.out.keep hb)
  clear hp hw hR hb HS
  go_wp2_with fail
  obtain ⟨W6, hW6⟩ : ∃ W, W = w5.alloc (.cells #[.slice ap5 1 cp5] 32) := ⟨_, rfl⟩
  have hb : Below w5.heap.size w5 W6 := by rw [hW6]; exact (Below.refl _ _).alloc (Nat.le_refl _) _
  have kb5 : W6.cell? ⟨w5.heap.size, 0, none⟩ = some (.slice ap5 1 cp5) := by rw [hW6]; go_simp
  rw [← hW6]
  have HB := Lib.hid (below_then HB.out hb)
  have HPS := Lib.hid (HPS.out.keep hb)
  have HX := Lib.hid (HX.out.keep hb)
  have kb2 := (hb.cell (p := ⟨X2, 0, none⟩) (World.block_lt_of_cell? _ _ kb2)).trans kb2
  have HWT := Lib.hid (HWT.out.keep hb)
  clear hb hW6
  obtain ⟨X5, hX5⟩ : ∃ X5, X5 = w5.heap.size := ⟨_, rfl⟩
  rw [← hX5] at kb5 ⊢
  clear hX5
  have HX2 : Hid (Rd 1 encI W6 (some ⟨T, 0, none⟩) [32, 16]) := Lib.hid (fun hn => by
    obtain ⟨b, off, h1, h2, h3⟩ := HX.out (by decide)
    refine ⟨b, off, h1, h2, fun k x hx j v hv => h3 k x ?_ j v hv⟩
    have hk : k < 2 := (List.getElem?_eq_some_iff.1 hx).1
    match k, hk with
    | 0, _ => exact hx
    | 1, _ => exact hx)
  go_upto_region 4 with (fail)
  go_cut [10] (fun v10 wx => v10 = .int .i64 1 ∧ Hid (Below W6.heap.size W6 wx))
  case first =>
    refine region_z (S := fun w' => Below W6.heap.size W6 w') [] (by kernel_rfl) (Below.refl _ _).drew (fun hHeld => ?_)
    obtain ⟨wd, hwd⟩ : ∃ wd, wd = W6.drew := ⟨_, rfl⟩
    rw [← hwd] at hHeld ⊢
    clear hwd
    refine wpAnyZ_take (i := 1) (v := .slice (some ⟨T, 0, none⟩) 3 3) [] rfl (by kernel_rfl) (by kernel_rfl) (by kernel_rfl) (by kernel_rfl) (fun _ _ _ h => h) (Or.inl ⟨by kernel_rfl, fun w' hSw => ?_⟩) hHeld ?_
    · clear hHeld hSw
      go_simp
    simp only [Act.put, List.getElem_toArray, List.getElem_cons_zero, List.getElem_cons_succ, List.setIfInBounds_toArray, List.set_cons_zero, List.set_cons_succ]
    refine wpAnyZ_take (i := 2) (v := .slice (some ⟨T, 0, none⟩) 2 3) [] rfl (by kernel_rfl) (by kernel_rfl) (by kernel_rfl) (by kernel_rfl) (fun _ _ _ h => h) (Or.inl ⟨by kernel_rfl, fun w' hSw => ?_⟩) hHeld ?_
    · clear hHeld hSw
      go_simp
    simp only [Act.put, List.getElem_toArray, List.getElem_cons_zero, List.getElem_cons_succ, List.setIfInBounds_toArray, List.set_cons_zero, List.set_cons_succ]
    refine wpAnyZ_two (i := 0) (k := 8) (by kernel_rfl) rfl rfl (fun K' hK => ?_) (fun K' hK => ?_)
    · go_simp
      refine (ltenPark_any 50 _).mono ?_
      rintro e wp1 ⟨a1, c1, a2, c2, a4, c4, rfl, hs, hb, -, -, -⟩
      have HS := Lib.hid hs
      clear hs
      refine hK.out _ _ ?_ (fun hHeld' => ?_)
      · exact hHeld.trans (hb.mono hHeld.size)
      clear hK K'
      clear hHeld hb
      have hHeld := hHeld'
      clear hHeld'
      try simp only [Act.put, List.getElem_toArray, List.getElem_cons_zero, List.getElem_cons_succ, List.setIfInBounds_toArray, List.set_cons_zero, List.set_cons_succ]
      refine wpAnyZ_two (i := 3) (k := 8) (by kernel_rfl) rfl rfl (fun K' hK => ?_) (fun K' hK => ?_)
      · go_simp
        refine (prProve_any a1 a2 none a4 none 1 c1 1 c2 0 0 3 c4 0 0 (some ⟨T, 0, none⟩) 2 3 (pkS 50) [32, 16] _ HS (Lib.hid (HX2.out.keep hHeld)) (Lib.hid rfl) (by omega)).mono ?_
        rintro e wq1 ⟨ap, np, cp, aw, nw, cw, ps, ws, er, rfl, hp, hpl, hw, hwl, hR, hb⟩
        obtain ⟨rfl, rfl, rfl⟩ := pk_proveS hR.out
        obtain rfl : 0 = np := hpl
        obtain rfl : 0 = nw := hwl
        clear hp hw hR HS
        refine hK.out _ _ ?_ (fun hHeld' => ?_)
        · exact hHeld.trans (hb.mono hHeld.size)
        clear hK K'
        clear hHeld hb
        have hHeld := hHeld'
        clear hHeld'
        try simp only [Act.put, List.getElem_toArray, List.getElem_cons_zero, List.getElem_cons_succ, List.setIfInBounds_toArray, List.set_cons_zero, List.set_cons_succ]
        refine wpAnyZ_take (i := 4) (v := .tuple #[.agg #[.slice ap 0 cp], .slice aw 0 cw, .int .i64 1]) [] rfl (by kernel_rfl) (by kernel_rfl) (by kernel_rfl) (by kernel_rfl) (fun _ _ _ h => h) (Or.inl ⟨by kernel_rfl, fun w' hSw => ?_⟩) hHeld ?_
        · clear hHeld hSw
          go_simp
        simp only [Act.put, List.getElem_toArray, List.getElem_cons_zero, List.getElem_cons_succ, List.setIfInBounds_toArray, List.set_cons_zero, List.set_cons_succ]
        refine wpAnyZ_take (i := 5) (v := .agg #[.slice ap 0 cp]) [] rfl (by kernel_rfl) (by kernel_rfl) (by kernel_rfl) (by kernel_rfl) (fun _ _ _ h => h) (Or.inl ⟨by kernel_rfl, fun w' hSw => ?_⟩) hHeld ?_
        · clear hHeld hSw
          go_simp
        simp only [Act.put, List.getElem_toArray, List.getElem_cons_zero, List.getElem_cons_succ, List.setIfInBounds_toArray, List.set_cons_zero, List.set_cons_succ]
        refine wpAnyZ_take (i := 6) (v := .slice aw 0 cw) [] rfl (by kernel_rfl) (by kernel_rfl) (by kernel_rfl) (by kernel_rfl) (fun _ _ _ h => h) (Or.inl ⟨by kernel_rfl, fun w' hSw => ?_⟩) hHeld ?_
        · clear hHeld hSw
          go_simp
        simp only [Act.put, List.getElem_toArray, List.getElem_cons_zero, List.getElem_cons_succ, List.setIfInBounds_toArray, List.set_cons_zero, List.set_cons_succ]
        refine wpAnyZ_take (i := 7) (v := .int .i64 1) [] rfl (by kernel_rfl) (by kernel_rfl) (by kernel_rfl) (by kernel_rfl) (fun _ _ _ h => h) (Or.inl ⟨by kernel_rfl, fun w' hSw => ?_⟩) hHeld ?_
        · clear hHeld hSw
          go_simp
        simp only [Act.put, List.getElem_toArray, List.getElem_cons_zero, List.getElem_cons_succ, List.setIfInBounds_toArray, List.set_cons_zero, List.set_cons_succ]
        refine wpAnyZ_one (i := 8) (by kernel_rfl) rfl (fun K' hK => ?_)
        go_simp
        refine hK.out _ _ ?_ (fun hHeld' => ?_)
        · exact hHeld.alloc hHeld.size _
        clear hK K'
        have GG0 := hHeld.size
        clear hHeld
        have hHeld := hHeld'
        clear hHeld'
        try simp only [Act.put, List.getElem_toArray, List.getElem_cons_zero, List.getElem_cons_succ, List.setIfInBounds_toArray, List.set_cons_zero, List.set_cons_succ]
        obtain ⟨WA, G, OG, GG, HWA⟩ : ∃ WA G, Hid (Own WA G 32 1 (fun _ => .slice none 0 0)) ∧ W6.heap.size ≤ G ∧ Hid (WA = wq1.alloc (.cells #[.slice none 0 0] 32) ∧ G = wq1.heap.size) := ⟨_, _, Lib.hid (Own.one wq1 32 (.slice none 0 0)), GG0, Lib.hid ⟨rfl, rfl⟩⟩
        rw [← HWA.out.1] at hHeld ⊢
        rw [← HWA.out.2]
        clear GG0 HWA
        refine wpAnyZ_one (i := 9) (by kernel_rfl) rfl (fun K' hK => ?_)
        have c0 := OG.out.cell (i := 0) (by omega)
        have f0 := OG.out.frozen 0
        go_simp
        refine hK.out _ _ ?_ (fun hHeld' => ?_)
        · exact hHeld.setCell (p := ⟨G, 0, none⟩) GG _
        clear hK K' hHeld c0 f0 OG
        have hHeld := hHeld'
        clear hHeld'
        try simp only [Act.put, List.getElem_toArray, List.getElem_cons_zero, List.getElem_cons_succ, List.setIfInBounds_toArray, List.set_cons_zero, List.set_cons_succ]
        refine wpAnyZ_take (i := 10) (v := .slice aw 0 cw) [] rfl (by kernel_rfl) (by kernel_rfl) (by kernel_rfl) (by kernel_rfl) (fun _ _ _ h => h) (Or.inl ⟨by kernel_rfl, fun w' hSw => ?_⟩) hHeld ?_
        · clear hHeld hSw
          go_simp
        simp only [Act.put, List.getElem_toArray, List.getElem_cons_zero, List.getElem_cons_succ, List.setIfInBounds_toArray, List.set_cons_zero, List.set_cons_succ]
        refine wpAnyZ_take (i := 11) (v := .int .i64 1) [] rfl (by kernel_rfl) (by kernel_rfl) (by kernel_rfl) (by kernel_rfl) (fun _ _ _ h => h) (Or.inl ⟨by kernel_rfl, fun w' hSw => ?_⟩) hHeld ?_
        · clear hHeld hSw
          go_simp
        simp only [Act.put, List.getElem_toArray, List.getElem_cons_zero, List.getElem_cons_succ, List.setIfInBounds_toArray, List.set_cons_zero, List.set_cons_succ]
        refine wpAnyZ_done (by kernel_rfl) ?_ _
        go_wp2_with fail
        go_meet
        exact ⟨rfl, Lib.hid hHeld⟩
      · have HS := Lib.hid (HS.out.keep ((Below.refl _ _).alloc (Nat.le_refl _) (.cells #[.slice none 0 0] 32)))
        go_simp
        refine hK.out _ _ ?_ (fun hHeld' => ?_)
        · exact hHeld.alloc hHeld.size _
        clear hK K'
        have GG0 := hHeld.size
        clear hHeld
        have hHeld := hHeld'
        clear hHeld'
        try simp only [Act.put, List.getElem_toArray, List.getElem_cons_zero, List.getElem_cons_succ, List.setIfInBounds_toArray, List.set_cons_zero, List.set_cons_succ]
        obtain ⟨WA, G, OG, GG, HWA⟩ : ∃ WA G, Hid (Own WA G 32 1 (fun _ => .slice none 0 0)) ∧ W6.heap.size ≤ G ∧ Hid (WA = wp1.alloc (.cells #[.slice none 0 0] 32) ∧ G = wp1.heap.size) := ⟨_, _, Lib.hid (Own.one wp1 32 (.slice none 0 0)), GG0, Lib.hid ⟨rfl, rfl⟩⟩
        rw [← HWA.out.1] at hHeld HS ⊢
        rw [← HWA.out.2]
        clear GG0 HWA
        refine wpAnyZ_one (i := 3) (by kernel_rfl) rfl (fun K' hK => ?_)
        go_simp
        refine (prProve_any a1 a2 none a4 none 1 c1 1 c2 0 0 3 c4 0 0 (some ⟨T, 0, none⟩) 2 3 (pkS 50) [32, 16] _ HS (Lib.hid (HX2.out.keep hHeld)) (Lib.hid rfl) (by omega)).mono ?_
        rintro e wq2 ⟨ap, np, cp, aw, nw, cw, ps, ws, er, rfl, hp, hpl, hw, hwl, hR, hb⟩
        obtain ⟨rfl, rfl, rfl⟩ := pk_proveS hR.out
        obtain rfl : 0 = np := hpl
        obtain rfl : 0 = nw := hwl
        clear hp hw hR HS
        refine hK.out _ _ ?_ (fun hHeld' => ?_)
        · exact hHeld.trans (hb.mono hHeld.size)
        clear hK K'
        have OG := Lib.hid (OG.out.keep hb OG.out.lt)
        clear hHeld hb
        have hHeld := hHeld'
        clear hHeld'
        try simp only [Act.put, List.getElem_toArray, List.getElem_cons_zero, List.getElem_cons_succ, List.setIfInBounds_toArray, List.set_cons_zero, List.set_cons_succ]
        refine wpAnyZ_take (i := 4) (v := .tuple #[.agg #[.slice ap 0 cp], .slice aw 0 cw, .int .i64 1]) [] rfl (by kernel_rfl) (by kernel_rfl) (by kernel_rfl) (by kernel_rfl) (fun _ _ _ h => h) (Or.inl ⟨by kernel_rfl, fun w' hSw => ?_⟩) hHeld ?_
        · clear hHeld hSw
          go_simp
        simp only [Act.put, List.getElem_toArray, List.getElem_cons_zero, List.getElem_cons_succ, List.setIfInBounds_toArray, List.set_cons_zero, List.set_cons_succ]
        refine wpAnyZ_take (i := 5) (v := .agg #[.slice ap 0 cp]) [] rfl (by kernel_rfl) (by kernel_rfl) (by kernel_rfl) (by kernel_rfl) (fun _ _ _ h => h) (Or.inl ⟨by kernel_rfl, fun w' hSw => ?_⟩) hHeld ?_
        · clear hHeld hSw
          go_simp
        simp only [Act.put, List.getElem_toArray, List.getElem_cons_zero, List.getElem_cons_succ, List.setIfInBounds_toArray, List.set_cons_zero, List.set_cons_succ]
        refine wpAnyZ_take (i := 6) (v := .slice aw 0 cw) [] rfl (by kernel_rfl) (by kernel_rfl) (by kernel_rfl) (by kernel_rfl) (fun _ _ _ h => h) (Or.inl ⟨by kernel_rfl, fun w' hSw => ?_⟩) hHeld ?_
        · clear hHeld hSw
          go_simp
        simp only [Act.put, List.getElem_toArray, List.getElem_cons_zero, List.getElem_cons_succ, List.setIfInBounds_toArray, List.set_cons_zero, List.set_cons_succ]
        refine wpAnyZ_take (i := 7) (v := .int .i64 1) [] rfl (by kernel_rfl) (by kernel_rfl) (by kernel_rfl) (by kernel_rfl) (fun _ _ _ h => h) (Or.inl ⟨by kernel_rfl, fun w' hSw => ?_⟩) hHeld ?_
        · clear hHeld hSw
          go_simp
        simp only [Act.put, List.getElem_toArray, List.getElem_cons_zero, List.getElem_cons_succ, List.setIfInBounds_toArray, List.set_cons_zero, List.set_cons_succ]
        refine wpAnyZ_one (i := 9) (by kernel_rfl) rfl (fun K' hK => ?_)
        have c0 := OG.out.cell (i := 0) (by omega)
        have f0 := OG.out.frozen 0
        go_simp
        refine hK.out _ _ ?_ (fun hHeld' => ?_)
        · exact hHeld.setCell (p := ⟨G, 0, none⟩) GG _
        clear hK K' hHeld c0 f0 OG
        have hHeld := hHeld'
        clear hHeld'
        try simp only [Act.put, List.getElem_toArray, List.getElem_cons_zero, List.getElem_cons_succ, List.setIfInBounds_toArray, List.set_cons_zero, List.set_cons_succ]
        refine wpAnyZ_take (i := 10) (v := .slice aw 0 cw) [] rfl (by kernel_rfl) (by kernel_rfl) (by kernel_rfl) (by kernel_rfl) (fun _ _ _ h => h) (Or.inl ⟨by kernel_rfl, fun w' hSw => ?_⟩) hHeld ?_
        · clear hHeld hSw
          go_simp
        simp only [Act.put, List.getElem_toArray, List.getElem_cons_zero, List.getElem_cons_succ, List.setIfInBounds_toArray, List.set_cons_zero, List.set_cons_succ]
        refine wpAnyZ_take (i := 11) (v := .int .i64 1) [] rfl (by kernel_rfl) (by kernel_rfl) (by kernel_rfl) (by kernel_rfl) (fun _ _ _ h => h) (Or.inl ⟨by kernel_rfl, fun w' hSw => ?_⟩) hHeld ?_
        · clear hHeld hSw
          go_simp
        simp only [Act.put, List.getElem_toArray, List.getElem_cons_zero, List.getElem_cons_succ, List.setIfInBounds_toArray, List.set_cons_zero, List.set_cons_succ]
        refine wpAnyZ_done (by kernel_rfl) ?_ _
        go_wp2_with fail
        go_meet
        exact ⟨rfl, Lib.hid hHeld⟩
    · go_simp
      refine hK.out _ _ ?_ (fun hHeld' => ?_)
      · exact hHeld.alloc hHeld.size _
      clear hK K'
      have GG0 := hHeld.size
      clear hHeld
      have hHeld := hHeld'
      clear hHeld'
      try simp only [Act.put, List.getElem_toArray, List.getElem_cons_zero, List.getElem_cons_succ, List.setIfInBounds_toArray, List.set_cons_zero, List.set_cons_succ]
      obtain ⟨WA, G, OG, GG, HWA⟩ : ∃ WA G, Hid (Own WA G 32 1 (fun _ => .slice none 0 0)) ∧ W6.heap.size ≤ G ∧ Hid (WA = wd.alloc (.cells #[.slice none 0 0] 32) ∧ G = wd.heap.size) := ⟨_, _, Lib.hid (Own.one wd 32 (.slice none 0 0)), GG0, Lib.hid ⟨rfl, rfl⟩⟩
      rw [← HWA.out.1] at hHeld ⊢
      rw [← HWA.out.2]
      clear GG0 HWA
      refine wpAnyZ_one (i := 0) (by kernel_rfl) rfl (fun K' hK => ?_)
      go_simp
      refine (ltenPark_any 50 _).mono ?_
      rintro e wp3 ⟨a1, c1, a2, c2, a4, c4, rfl, hs, hb, -, -, -⟩
      have HS := Lib.hid hs
      clear hs
      refine hK.out _ _ ?_ (fun hHeld' => ?_)
      · exact hHeld.trans (hb.mono hHeld.size)
      clear hK K'
      have OG := Lib.hid (OG.out.keep hb OG.out.lt)
      clear hHeld hb
      have hHeld := hHeld'
      clear hHeld'
      try simp only [Act.put, List.getElem_toArray, List.getElem_cons_zero, List.getElem_cons_succ, List.setIfInBounds_toArray, List.set_cons_zero, List.set_cons_succ]
      refine wpAnyZ_one (i := 3) (by kernel_rfl) rfl (fun K' hK => ?_)
      go_simp
      refine (prProve_any a1 a2 none a4 none 1 c1 1 c2 0 0 3 c4 0 0 (some ⟨T, 0, none⟩) 2 3 (pkS 50) [32, 16] _ HS (Lib.hid (HX2.out.keep hHeld)) (Lib.hid rfl) (by omega)).mono ?_
      rintro e wq3 ⟨ap, np, cp, aw, nw, cw, ps, ws, er, rfl, hp, hpl, hw, hwl, hR, hb⟩
      obtain ⟨rfl, rfl, rfl⟩ := pk_proveS hR.out
      obtain rfl : 0 = np := hpl
      obtain rfl : 0 = nw := hwl
      clear hp hw hR HS
      refine hK.out _ _ ?_ (fun hHeld' => ?_)
      · exact hHeld.trans (hb.mono hHeld.size)
      clear hK K'
      have OG := Lib.hid (OG.out.keep hb OG.out.lt)
      clear hHeld hb
      have hHeld := hHeld'
      clear hHeld'
      try simp only [Act.put, List.getElem_toArray, List.getElem_cons_zero, List.getElem_cons_succ, List.setIfInBounds_toArray, List.set_cons_zero, List.set_cons_succ]
      refine wpAnyZ_take (i := 4) (v := .tuple #[.agg #[.slice ap 0 cp], .slice aw 0 cw, .int .i64 1]) [] rfl (by kernel_rfl) (by kernel_rfl) (by kernel_rfl) (by kernel_rfl) (fun _ _ _ h => h) (Or.inl ⟨by kernel_rfl, fun w' hSw => ?_⟩) hHeld ?_
      · clear hHeld hSw
        go_simp
      simp only [Act.put, List.getElem_toArray, List.getElem_cons_zero, List.getElem_cons_succ, List.setIfInBounds_toArray, List.set_cons_zero, List.set_cons_succ]
      refine wpAnyZ_take (i := 5) (v := .agg #[.slice ap 0 cp]) [] rfl (by kernel_rfl) (by kernel_rfl) (by kernel_rfl) (by kernel_rfl) (fun _ _ _ h => h) (Or.inl ⟨by kernel_rfl, fun w' hSw => ?_⟩) hHeld ?_
      · clear hHeld hSw
        go_simp
      simp only [Act.put, List.getElem_toArray, List.getElem_cons_zero, List.getElem_cons_succ, List.setIfInBounds_toArray, List.set_cons_zero, List.set_cons_succ]
      refine wpAnyZ_take (i := 6) (v := .slice aw 0 cw) [] rfl (by kernel_rfl) (by kernel_rfl) (by kernel_rfl) (by kernel_rfl) (fun _ _ _ h => h) (Or.inl ⟨by kernel_rfl, fun w' hSw => ?_⟩) hHeld ?_
      · clear hHeld hSw
        go_simp
      simp only [Act.put, List.getElem_toArray, List.getElem_cons_zero, List.getElem_cons_succ, List.setIfInBounds_toArray, List.set_cons_zero, List.set_cons_succ]
      refine wpAnyZ_take (i := 7) (v := .int .i64 1) [] rfl (by kernel_rfl) (by kernel_rfl) (by kernel_rfl) (by kernel_rfl) (fun _ _ _ h => h) (Or.inl ⟨by kernel_rfl, fun w' hSw => ?_⟩) hHeld ?_
      · clear hHeld hSw
        go_simp
      simp only [Act.put, List.getElem_toArray, List.getElem_cons_zero, List.getElem_cons_succ, List.setIfInBounds_toArray, List.set_cons_zero, List.set_cons_succ]
      refine wpAnyZ_one (i := 9) (by kernel_rfl) rfl (fun K' hK => ?_)
      have c0 := OG.out.cell (i := 0) (by omega)
      have f0 := OG.out.frozen 0
      go_simp
      refine hK.out _ _ ?_ (fun hHeld' => ?_)
      · exact hHeld.setCell (p := ⟨G, 0, none⟩) GG _
      clear hK K' hHeld c0 f0 OG
      have hHeld := hHeld'
      clear hHeld'
      try simp only [Act.put, List.getElem_toArray, List.getElem_cons_zero, List.getElem_cons_succ, List.setIfInBounds_toArray, List.set_cons_zero, List.set_cons_succ]
      refine wpAnyZ_take (i := 10) (v := .slice aw 0 cw) [] rfl (by kernel_rfl) (by kernel_rfl) (by kernel_rfl) (by kernel_rfl) (fun _ _ _ h => h) (Or.inl ⟨by kernel_rfl, fun w' hSw => ?_⟩) hHeld ?_
      · clear hHeld hSw
        go_simp
      simp only [Act.put, List.getElem_toArray, List.getElem_cons_zero, List.getElem_cons_succ, List.setIfInBounds_toArray, List.set_cons_zero, List.set_cons_succ]
      refine wpAnyZ_take (i := 11) (v := .int .i64 1) [] rfl (by kernel_rfl) (by kernel_rfl) (by kernel_rfl) (by kernel_rfl) (fun _ _ _ h => h) (Or.inl ⟨by kernel_rfl, fun w' hSw => ?_⟩) hHeld ?_
      · clear hHeld hSw
        go_simp
      simp only [Act.put, List.getElem_toArray, List.getElem_cons_zero, List.getElem_cons_succ, List.setIfInBounds_toArray, List.set_cons_zero, List.set_cons_succ]
      refine wpAnyZ_done (by kernel_rfl) ?_ _
      go_wp2_with fail
      go_meet
      exact ⟨rfl, Lib.hid hHeld⟩
  case rest =>
    obtain ⟨rfl, HBC⟩ := hcut
    clear HX2
    have HB := Lib.hid (below_then HB.out HBC.out)
    have hb := HBC.out
    have HX := Lib.hid (HX.out.keep hb)
    have kb2 := (hb.cell (p := ⟨X2, 0, none⟩) (World.block_lt_of_cell? _ _ kb2)).trans kb2
    have HWT := Lib.hid (HWT.out.keep hb)
    have kb5 := (hb.cell (p := ⟨X5, 0, none⟩) (World.block_lt_of_cell? _ _ kb5)).trans kb5
    have HPS := Lib.hid (HPS.out.keep hb)
    clear HBC hb
    have h5 := HPS.out.at_ (k := 0) (by decide)
    obtain ⟨bq, oq, rq, hq, hqb, hqx, hqc⟩ := h5
    injection hqx with hqx
    subst hqx
    have Q0 := Lib.hid (hqc 0 _ rfl)
    have Q1 := Lib.hid (hqc 1 _ rfl)
    have Q2 := Lib.hid (hqc 2 _ rfl)
    simp only [Nat.zero_mul, Nat.add_zero] at Q0 Q1 Q2
    subst hq
    clear hqc hqb
    go_upto_region 7 with (fail)
    go_cut [0] (fun v0 wx => v0 = .bool true ∧ Hid (Below wc.heap.size wc wx))
    case first =>
      refine region_z (S := fun w' => Below wc.heap.size wc w') [] (by kernel_rfl) (Below.refl _ _).drew (fun hHeld => ?_)
      obtain ⟨wd, hwd⟩ : ∃ wd, wd = wc.drew := ⟨_, rfl⟩
      rw [← hwd] at hHeld ⊢
      clear hwd
      refine wpAnyZ_take (i := 0) (v := .int .i64 13) [] rfl (by kernel_rfl) (by kernel_rfl) (by kernel_rfl) (by kernel_rfl) (fun _ _ _ h => h) (Or.inl ⟨by kernel_rfl, fun w' hSw => ?_⟩) hHeld ?_
      · clear hHeld hSw
        go_simp
      simp only [Act.put, List.getElem_toArray, List.getElem_cons_zero, List.getElem_cons_succ, List.setIfInBounds_toArray, List.set_cons_zero, List.set_cons_succ]
      refine wpAnyZ_take (i := 1) (v := .bool true) [] rfl (by kernel_rfl) (by kernel_rfl) (by kernel_rfl) (by kernel_rfl) (fun _ _ _ h => h) (Or.inl ⟨by kernel_rfl, fun w' hSw => ?_⟩) hHeld ?_
      · clear hHeld hSw
        go_simp
      simp only [Act.put, List.getElem_toArray, List.getElem_cons_zero, List.getElem_cons_succ, List.setIfInBounds_toArray, List.set_cons_zero, List.set_cons_succ]
      refine wpAnyZ_take (i := 2) (v := .bool true) [] rfl (by kernel_rfl) (by kernel_rfl) (by kernel_rfl) (by kernel_rfl) (fun _ _ _ h => h) (Or.inl ⟨by kernel_rfl, fun w' hSw => ?_⟩) hHeld ?_
      · clear hHeld hSw
        go_simp
      simp only [Act.put, List.getElem_toArray, List.getElem_cons_zero, List.getElem_cons_succ, List.setIfInBounds_toArray, List.set_cons_zero, List.set_cons_succ]
      refine wpAnyZ_take (i := 3) (v := .int .i64 0) [] rfl (by kernel_rfl) (by kernel_rfl) (by kernel_rfl) (by kernel_rfl) (fun _ _ _ h => h) (Or.inl ⟨by kernel_rfl, fun w' hSw => ?_⟩) hHeld ?_
      · clear hHeld hSw
        go_simp
      simp only [Act.put, List.getElem_toArray, List.getElem_cons_zero, List.getElem_cons_succ, List.setIfInBounds_toArray, List.set_cons_zero, List.set_cons_succ]
      refine wpAnyZ_take (i := 4) (v := .bool true) [] rfl (by kernel_rfl) (by kernel_rfl) (by kernel_rfl) (by kernel_rfl) (fun _ _ _ h => h) (Or.inl ⟨by kernel_rfl, fun w' hSw => ?_⟩) hHeld ?_
      · clear hHeld hSw
        go_simp
      simp only [Act.put, List.getElem_toArray, List.getElem_cons_zero, List.getElem_cons_succ, List.setIfInBounds_toArray, List.set_cons_zero, List.set_cons_succ]
      refine wpAnyZ_take (i := 5) (v := .bool true) [] rfl (by kernel_rfl) (by kernel_rfl) (by kernel_rfl) (by kernel_rfl) (fun _ _ _ h => h) (Or.inl ⟨by kernel_rfl, fun w' hSw => ?_⟩) hHeld ?_
      · clear hHeld hSw
        go_simp
      simp only [Act.put, List.getElem_toArray, List.getElem_cons_zero, List.getElem_cons_succ, List.setIfInBounds_toArray, List.set_cons_zero, List.set_cons_succ]
      refine wpAnyZ_take (i := 6) (v := .bool true) [] rfl (by kernel_rfl) (by kernel_rfl) (by kernel_rfl) (by kernel_rfl) (fun _ _ _ h => h) (Or.inl ⟨by kernel_rfl, fun w' hSw => ?_⟩) hHeld ?_
      · clear hHeld hSw
        go_simp
      simp only [Act.put, List.getElem_toArray, List.getElem_cons_zero, List.getElem_cons_succ, List.setIfInBounds_toArray, List.set_cons_zero, List.set_cons_succ]
      refine wpAnyZ_take (i := 7) (v := .int .i64 1) [] rfl (by kernel_rfl) (by kernel_rfl) (by kernel_rfl) (by kernel_rfl) (fun _ _ _ h => h) (Or.inl ⟨by kernel_rfl, fun w' hSw => ?_⟩) hHeld ?_
      · clear hHeld hSw
        go_simp
      simp only [Act.put, List.getElem_toArray, List.getElem_cons_zero, List.getElem_cons_succ, List.setIfInBounds_toArray, List.set_cons_zero, List.set_cons_succ]
      refine wpAnyZ_take (i := 8) (v := .bool true) [] rfl (by kernel_rfl) (by kernel_rfl) (by kernel_rfl) (by kernel_rfl) (fun _ _ _ h => h) (Or.inl ⟨by kernel_rfl, fun w' hSw => ?_⟩) hHeld ?_
      · clear hHeld hSw
        go_simp
      simp only [Act.put, List.getElem_toArray, List.getElem_cons_zero, List.getElem_cons_succ, List.setIfInBounds_toArray, List.set_cons_zero, List.set_cons_succ]
      refine wpAnyZ_take (i := 9) (v := .bool true) [] rfl (by kernel_rfl) (by kernel_rfl) (by kernel_rfl) (by kernel_rfl) (fun _ _ _ h => h) (Or.inl ⟨by kernel_rfl, fun w' hSw => ?_⟩) hHeld ?_
      · clear hHeld hSw
        go_simp
      simp only [Act.put, List.getElem_toArray, List.getElem_cons_zero, List.getElem_cons_succ, List.setIfInBounds_toArray, List.set_cons_zero, List.set_cons_succ]
      refine wpAnyZ_take (i := 10) (v := .bool true) [] rfl (by kernel_rfl) (by kernel_rfl) (by kernel_rfl) (by kernel_rfl) (fun _ _ _ h => h) (Or.inl ⟨by kernel_rfl, fun w' hSw => ?_⟩) hHeld ?_
      · clear hHeld hSw
        go_simp
      simp only [Act.put, List.getElem_toArray, List.getElem_cons_zero, List.getElem_cons_succ, List.setIfInBounds_toArray, List.set_cons_zero, List.set_cons_succ]
      refine wpAnyZ_take (i := 11) (v := .slice aw2 3 cw2) [] rfl (by kernel_rfl) (by kernel_rfl) (by kernel_rfl) (by kernel_rfl) (fun _ _ _ h => h) (Or.inl ⟨by kernel_rfl, fun w' hSw => ?_⟩) hHeld ?_
      · clear hHeld hSw
        go_simp
      simp only [Act.put, List.getElem_toArray, List.getElem_cons_zero, List.getElem_cons_succ, List.setIfInBounds_toArray, List.set_cons_zero, List.set_cons_succ]
      refine wpAnyZ_one (i := 12) (by kernel_rfl) rfl (fun K' hK => ?_)
      have HL3 : Hid (Rd 1 encI (wd.alloc (.cells #[.int .i64 32, .int .i64 0, .int .i64 19] 3)) (some ⟨wd.heap.size, 0, none⟩) [32, 0, 19]) := Lib.hid (rd_litI wd #[.int .i64 32, .int .i64 0, .int .i64 19] [32, 0, 19] rfl)
      go_simp
      refine hK.out _ _ ?_ (fun hHeld' => ?_)
      · exact hHeld.alloc hHeld.size _
      clear hK K'
      have hb : Below wd.heap.size wd (wd.alloc (.cells #[.int .i64 32, .int .i64 0, .int .i64 19] 3)) := (Below.refl _ wd).alloc (Nat.le_refl _) _
      clear hHeld
      have hHeld := hHeld'
      clear hHeld' hb
      try simp only [Act.put, List.getElem_toArray, List.getElem_cons_zero, List.getElem_cons_succ, List.setIfInBounds_toArray, List.set_cons_zero, List.set_cons_succ]
      refine wpAnyZ_one (i := 13) (by kernel_rfl) rfl (fun K' hK => ?_)
      go_simp
      refine (r4Ints_any aw2 (some ⟨wd.heap.size, 0, none⟩) 3 cw2 3 3 [32, 0, 19] [32, 0, 19] _ (Lib.hid (HWT.out.keep hHeld)) HL3 (Lib.hid rfl) (Lib.hid rfl) (by omega)).mono ?_
      rintro e wi ⟨rfl, hb⟩
      rw [decide_eq_true rfl]
      refine hK.out _ _ ?_ (fun hHeld' => ?_)
      · exact hHeld.trans (hb.mono hHeld.size)
      clear hK K'
      clear hHeld hb HL3
      have hHeld := hHeld'
      clear hHeld'
      try simp only [Act.put, List.getElem_toArray, List.getElem_cons_zero, List.getElem_cons_succ, List.setIfInBounds_toArray, List.set_cons_zero, List.set_cons_succ]
      refine wpAnyZ_take (i := 14) (v := .bool true) [] rfl (by kernel_rfl) (by kernel_rfl) (by kernel_rfl) (by kernel_rfl) (fun _ _ _ h => h) (Or.inl ⟨by kernel_rfl, fun w' hSw => ?_⟩) hHeld ?_
      · clear hHeld hSw
        go_simp
      simp only [Act.put, List.getElem_toArray, List.getElem_cons_zero, List.getElem_cons_succ, List.setIfInBounds_toArray, List.set_cons_zero, List.set_cons_succ]
      refine wpAnyZ_take (i := 15) (v := .bool true) [] rfl (by kernel_rfl) (by kernel_rfl) (by kernel_rfl) (by kernel_rfl) (fun _ _ _ h => h) (Or.inl ⟨by kernel_rfl, fun w' hSw => ?_⟩) hHeld ?_
      · clear hHeld hSw
        go_simp
      simp only [Act.put, List.getElem_toArray, List.getElem_cons_zero, List.getElem_cons_succ, List.setIfInBounds_toArray, List.set_cons_zero, List.set_cons_succ]
      refine wpAnyZ_take (i := 16) (v := .pointer (some ⟨X5, 0, none⟩)) [] rfl (by kernel_rfl) (by kernel_rfl) (by kernel_rfl) (by kernel_rfl) (fun _ _ _ h => h) (Or.inl ⟨by kernel_rfl, fun w' hSw => ?_⟩) hHeld ?_
      · clear hHeld hSw
        go_simp
      simp only [Act.put, List.getElem_toArray, List.getElem_cons_zero, List.getElem_cons_succ, List.setIfInBounds_toArray, List.set_cons_zero, List.set_cons_succ]
      refine wpAnyZ_take (i := 17) (v := .slice (some ⟨bq, oq, none⟩) 1 cp5) [] rfl (by kernel_rfl) (by kernel_rfl) (by kernel_rfl) (by kernel_rfl) (fun _ _ _ h => h) (Or.inl ⟨by kernel_rfl, fun w' hSw => ?_⟩) hHeld ?_
      · have s5 := (hSw.cell (p := ⟨X5, 0, none⟩) (World.block_lt_of_cell? _ _ kb5)).trans kb5
        clear hHeld hSw
        go_simp
      simp only [Act.put, List.getElem_toArray, List.getElem_cons_zero, List.getElem_cons_succ, List.setIfInBounds_toArray, List.set_cons_zero, List.set_cons_succ]
      refine wpAnyZ_take (i := 18) (v := .pointer (some ⟨bq, oq, none⟩)) [] rfl (by kernel_rfl) (by kernel_rfl) (by kernel_rfl) (by kernel_rfl) (fun _ _ _ h => h) (Or.inl ⟨by kernel_rfl, fun w' hSw => ?_⟩) hHeld ?_
      · clear hHeld hSw
        go_simp
      simp only [Act.put, List.getElem_toArray, List.getElem_cons_zero, List.getElem_cons_succ, List.setIfInBounds_toArray, List.set_cons_zero, List.set_cons_succ]
      refine wpAnyZ_take (i := 19) (v := .agg #[.int .i64 68, .int .i64 0, .int .i64 0]) [] rfl (by kernel_rfl) (by kernel_rfl) (by kernel_rfl) (by kernel_rfl) (fun _ _ _ h => h) (Or.inl ⟨by kernel_rfl, fun w' hSw => ?_⟩) hHeld ?_
      · have s5 := (hSw.cell (p := ⟨X5, 0, none⟩) (World.block_lt_of_cell? _ _ kb5)).trans kb5
        have q0 := (hSw.cell (p := ⟨bq, oq, none⟩) (World.block_lt_of_cell? _ _ Q0.out)).trans Q0.out
        have q1 := (hSw.cell (p := ⟨bq, oq + 1, none⟩) (World.block_lt_of_cell? _ _ Q1.out)).trans Q1.out
        have q2 := (hSw.cell (p := ⟨bq, oq + 2, none⟩) (World.block_lt_of_cell? _ _ Q2.out)).trans Q2.out
        clear hHeld hSw
        go_simp
      simp only [Act.put, List.getElem_toArray, List.getElem_cons_zero, List.getElem_cons_succ, List.setIfInBounds_toArray, List.set_cons_zero, List.set_cons_succ]
      refine wpAnyZ_take (i := 20) (v := .agg #[.int .i64 68, .int .i64 0, .int .i64 0]) [] rfl (by kernel_rfl) (by kernel_rfl) (by kernel_rfl) (by kernel_rfl) (fun _ _ _ h => h) (Or.inl ⟨by kernel_rfl, fun w' hSw => ?_⟩) hHeld ?_
      · clear hHeld hSw
        go_simp
      simp only [Act.put, List.getElem_toArray, List.getElem_cons_zero, List.getElem_cons_succ, List.setIfInBounds_toArray, List.set_cons_zero, List.set_cons_succ]
      refine wpAnyZ_take (i := 21) (v := .bool true) [] rfl (by kernel_rfl) (by kernel_rfl) (by kernel_rfl) (by kernel_rfl) (fun _ _ _ h => h) (Or.inl ⟨by kernel_rfl, fun w' hSw => ?_⟩) hHeld ?_
      · have he3 := eq_row3 68 0 0 68 0 0 w'
        clear hHeld hSw
        go_simp
      simp only [Act.put, List.getElem_toArray, List.getElem_cons_zero, List.getElem_cons_succ, List.setIfInBounds_toArray, List.set_cons_zero, List.set_cons_succ]
      refine wpAnyZ_take (i := 22) (v := .bool true) [] rfl (by kernel_rfl) (by kernel_rfl) (by kernel_rfl) (by kernel_rfl) (fun _ _ _ h => h) (Or.inl ⟨by kernel_rfl, fun w' hSw => ?_⟩) hHeld ?_
      · clear hHeld hSw
        go_simp
      simp only [Act.put, List.getElem_toArray, List.getElem_cons_zero, List.getElem_cons_succ, List.setIfInBounds_toArray, List.set_cons_zero, List.set_cons_succ]
      refine wpAnyZ_take (i := 23) (v := .bool true) [] rfl (by kernel_rfl) (by kernel_rfl) (by kernel_rfl) (by kernel_rfl) (fun _ _ _ h => h) (Or.inl ⟨by kernel_rfl, fun w' hSw => ?_⟩) hHeld ?_
      · clear hHeld hSw
        go_simp
      simp only [Act.put, List.getElem_toArray, List.getElem_cons_zero, List.getElem_cons_succ, List.setIfInBounds_toArray, List.set_cons_zero, List.set_cons_succ]
      refine wpAnyZ_take (i := 25) (v := .slice (some ⟨T, 0, none⟩) 3 3) [] rfl (by kernel_rfl) (by kernel_rfl) (by kernel_rfl) (by kernel_rfl) (fun _ _ _ h => h) (Or.inl ⟨by kernel_rfl, fun w' hSw => ?_⟩) hHeld ?_
      · clear hHeld hSw
        go_simp
      simp only [Act.put, List.getElem_toArray, List.getElem_cons_zero, List.getElem_cons_succ, List.setIfInBounds_toArray, List.set_cons_zero, List.set_cons_succ]
      refine wpAnyZ_take (i := 26) (v := .agg #[.slice (some ⟨bq, oq, none⟩) 1 cp5]) [] rfl (by kernel_rfl) (by kernel_rfl) (by kernel_rfl) (by kernel_rfl) (fun _ _ _ h => h) (Or.inl ⟨by kernel_rfl, fun w' hSw => ?_⟩) hHeld ?_
      · have s5 := (hSw.cell (p := ⟨X5, 0, none⟩) (World.block_lt_of_cell? _ _ kb5)).trans kb5
        clear hHeld hSw
        go_simp
      simp only [Act.put, List.getElem_toArray, List.getElem_cons_zero, List.getElem_cons_succ, List.setIfInBounds_toArray, List.set_cons_zero, List.set_cons_succ]
      refine wpAnyZ_one (i := 24) (by kernel_rfl) rfl (fun K' hK => ?_)
      go_simp
      refine (ltenPark_any 68 _).mono ?_
      rintro e wp10 ⟨a1, c1, a2, c2, a4, c4, rfl, hs, hb, -, -, -⟩
      have HS := Lib.hid hs
      clear hs
      refine hK.out _ _ ?_ (fun hHeld' => ?_)
      · exact hHeld.trans (hb.mono hHeld.size)
      clear hK K'
      clear hHeld hb
      have hHeld := hHeld'
      clear hHeld'
      try simp only [Act.put, List.getElem_toArray, List.getElem_cons_zero, List.getElem_cons_succ, List.setIfInBounds_toArray, List.set_cons_zero, List.set_cons_succ]
      refine wpAnyZ_one (i := 27) (by kernel_rfl) rfl (fun K' hK => ?_)
      go_simp
      refine (prCheck_any a1 a2 none a4 none 1 c1 1 c2 0 0 3 c4 0 0 (some ⟨T, 0, none⟩) 3 3 (pkS 68) pkT (some ⟨bq, oq, none⟩) 1 cp5 [(68, 0, 0)] _ HS (Lib.hid (HX.out.keep hHeld)) (Lib.hid rfl) (by omega) (Lib.hid (HPS.out.keep hHeld)) (Lib.hid rfl)).mono ?_
      rintro e wk10 ⟨rfl, hb⟩
      rw [pk_c68]
      refine hK.out _ _ ?_ (fun hHeld' => ?_)
      · exact hHeld.trans (hb.mono hHeld.size)
      clear hK K'
      clear hHeld hb HS
      have hHeld := hHeld'
      clear hHeld'
      try simp only [Act.put, List.getElem_toArray, List.getElem_cons_zero, List.getElem_cons_succ, List.setIfInBounds_toArray, List.set_cons_zero, List.set_cons_succ]
      refine wpAnyZ_take (i := 28) (v := .bool true) [] rfl (by kernel_rfl) (by kernel_rfl) (by kernel_rfl) (by kernel_rfl) (fun _ _ _ h => h) (Or.inl ⟨by kernel_rfl, fun w' hSw => ?_⟩) hHeld ?_
      · clear hHeld hSw
        go_simp
      simp only [Act.put, List.getElem_toArray, List.getElem_cons_zero, List.getElem_cons_succ, List.setIfInBounds_toArray, List.set_cons_zero, List.set_cons_succ]
      refine wpAnyZ_take (i := 29) (v := .bool true) [] rfl (by kernel_rfl) (by kernel_rfl) (by kernel_rfl) (by kernel_rfl) (fun _ _ _ h => h) (Or.inl ⟨by kernel_rfl, fun w' hSw => ?_⟩) hHeld ?_
      · clear hHeld hSw
        go_simp
      simp only [Act.put, List.getElem_toArray, List.getElem_cons_zero, List.getElem_cons_succ, List.setIfInBounds_toArray, List.set_cons_zero, List.set_cons_succ]
      refine wpAnyZ_take (i := 31) (v := .slice (some ⟨T, 0, none⟩) 3 3) [] rfl (by kernel_rfl) (by kernel_rfl) (by kernel_rfl) (by kernel_rfl) (fun _ _ _ h => h) (Or.inl ⟨by kernel_rfl, fun w' hSw => ?_⟩) hHeld ?_
      · clear hHeld hSw
        go_simp
      simp only [Act.put, List.getElem_toArray, List.getElem_cons_zero, List.getElem_cons_succ, List.setIfInBounds_toArray, List.set_cons_zero, List.set_cons_succ]
      refine wpAnyZ_take (i := 32) (v := .agg #[.slice (some ⟨bq, oq, none⟩) 1 cp5]) [] rfl (by kernel_rfl) (by kernel_rfl) (by kernel_rfl) (by kernel_rfl) (fun _ _ _ h => h) (Or.inl ⟨by kernel_rfl, fun w' hSw => ?_⟩) hHeld ?_
      · have s5 := (hSw.cell (p := ⟨X5, 0, none⟩) (World.block_lt_of_cell? _ _ kb5)).trans kb5
        clear hHeld hSw
        go_simp
      simp only [Act.put, List.getElem_toArray, List.getElem_cons_zero, List.getElem_cons_succ, List.setIfInBounds_toArray, List.set_cons_zero, List.set_cons_succ]
      refine wpAnyZ_one (i := 30) (by kernel_rfl) rfl (fun K' hK => ?_)
      go_simp
      refine (ltenPark_any 67 _).mono ?_
      rintro e wp11 ⟨a1, c1, a2, c2, a4, c4, rfl, hs, hb, -, -, -⟩
      have HS := Lib.hid hs
      clear hs
      refine hK.out _ _ ?_ (fun hHeld' => ?_)
      · exact hHeld.trans (hb.mono hHeld.size)
      clear hK K'
      clear hHeld hb
      have hHeld := hHeld'
      clear hHeld'
      try simp only [Act.put, List.getElem_toArray, List.getElem_cons_zero, List.getElem_cons_succ, List.setIfInBounds_toArray, List.set_cons_zero, List.set_cons_succ]
      refine wpAnyZ_one (i := 33) (by kernel_rfl) rfl (fun K' hK => ?_)
      go_simp
      refine (prCheck_any a1 a2 none a4 none 1 c1 1 c2 0 0 3 c4 0 0 (some ⟨T, 0, none⟩) 3 3 (pkS 67) pkT (some ⟨bq, oq, none⟩) 1 cp5 [(68, 0, 0)] _ HS (Lib.hid (HX.out.keep hHeld)) (Lib.hid rfl) (by omega) (Lib.hid (HPS.out.keep hHeld)) (Lib.hid rfl)).mono ?_
      rintro e wk11 ⟨rfl, hb⟩
      rw [pk_c67]
      refine hK.out _ _ ?_ (fun hHeld' => ?_)
      · exact hHeld.trans (hb.mono hHeld.size)
      clear hK K'
      clear hHeld hb HS
      have hHeld := hHeld'
      clear hHeld'
      try simp only [Act.put, List.getElem_toArray, List.getElem_cons_zero, List.getElem_cons_succ, List.setIfInBounds_toArray, List.set_cons_zero, List.set_cons_succ]
      refine wpAnyZ_take (i := 34) (v := .bool true) [] rfl (by kernel_rfl) (by kernel_rfl) (by kernel_rfl) (by kernel_rfl) (fun _ _ _ h => h) (Or.inl ⟨by kernel_rfl, fun w' hSw => ?_⟩) hHeld ?_
      · clear hHeld hSw
        go_simp
      simp only [Act.put, List.getElem_toArray, List.getElem_cons_zero, List.getElem_cons_succ, List.setIfInBounds_toArray, List.set_cons_zero, List.set_cons_succ]
      refine wpAnyZ_take (i := 35) (v := .bool true) [] rfl (by kernel_rfl) (by kernel_rfl) (by kernel_rfl) (by kernel_rfl) (fun _ _ _ h => h) (Or.inl ⟨by kernel_rfl, fun w' hSw => ?_⟩) hHeld ?_
      · clear hHeld hSw
        go_simp
      simp only [Act.put, List.getElem_toArray, List.getElem_cons_zero, List.getElem_cons_succ, List.setIfInBounds_toArray, List.set_cons_zero, List.set_cons_succ]
      refine wpAnyZ_take (i := 36) (v := .bool true) [] rfl (by kernel_rfl) (by kernel_rfl) (by kernel_rfl) (by kernel_rfl) (fun _ _ _ h => h) (Or.inl ⟨by kernel_rfl, fun w' hSw => ?_⟩) hHeld ?_
      · clear hHeld hSw
        go_simp
      simp only [Act.put, List.getElem_toArray, List.getElem_cons_zero, List.getElem_cons_succ, List.setIfInBounds_toArray, List.set_cons_zero, List.set_cons_succ]
      refine wpAnyZ_take (i := 38) (v := .slice (some ⟨T, 0, none⟩) 3 3) [] rfl (by kernel_rfl) (by kernel_rfl) (by kernel_rfl) (by kernel_rfl) (fun _ _ _ h => h) (Or.inl ⟨by kernel_rfl, fun w' hSw => ?_⟩) hHeld ?_
      · clear hHeld hSw
        go_simp
      simp only [Act.put, List.getElem_toArray, List.getElem_cons_zero, List.getElem_cons_succ, List.setIfInBounds_toArray, List.set_cons_zero, List.set_cons_succ]
      refine wpAnyZ_take (i := 39) (v := .agg #[.int .i64 70, .int .i64 5, .int .i64 0]) [] rfl (by kernel_rfl) (by kernel_rfl) (by kernel_rfl) (by kernel_rfl) (fun _ _ _ h => h) (Or.inl ⟨by kernel_rfl, fun w' hSw => ?_⟩) hHeld ?_
      · clear hHeld hSw
        go_simp
      simp only [Act.put, List.getElem_toArray, List.getElem_cons_zero, List.getElem_cons_succ, List.setIfInBounds_toArray, List.set_cons_zero, List.set_cons_succ]
      refine wpAnyZ_two (i := 37) (k := 40) (by kernel_rfl) rfl rfl (fun K' hK => ?_) (fun K' hK => ?_)
      · go_simp
        refine (ltenPark_any 70 _).mono ?_
        rintro e wp12 ⟨a1, c1, a2, c2, a4, c4, rfl, hs, hb, -, -, -⟩
        have HS := Lib.hid hs
        clear hs
        refine hK.out _ _ ?_ (fun hHeld' => ?_)
        · exact hHeld.trans (hb.mono hHeld.size)
        clear hK K'
        clear hHeld hb
        have hHeld := hHeld'
        clear hHeld'
        try simp only [Act.put, List.getElem_toArray, List.getElem_cons_zero, List.getElem_cons_succ, List.setIfInBounds_toArray, List.set_cons_zero, List.set_cons_succ]
        refine wpAnyZ_one (i := 40) (by kernel_rfl) rfl (fun K' hK => ?_)
        have HS := Lib.hid (HS.out.keep ((Below.refl _ _).alloc (Nat.le_refl _) (.cells #[.int .i64 70, .int .i64 5, .int .i64 0] 51)))
        go_simp
        refine hK.out _ _ ?_ (fun hHeld' => ?_)
        · exact hHeld.alloc hHeld.size _
        clear hK K'
        clear hHeld
        have hHeld := hHeld'
        clear hHeld'
        try simp only [Act.put, List.getElem_toArray, List.getElem_cons_zero, List.getElem_cons_succ, List.setIfInBounds_toArray, List.set_cons_zero, List.set_cons_succ]
        obtain ⟨WA, AG, HL, HWA⟩ : ∃ WA AG, Hid (Rd 3 enc3 WA (some ⟨AG, 0, none⟩) [(70, 5, 0)]) ∧ Hid (WA = wp12.alloc (.cells #[.int .i64 70, .int .i64 5, .int .i64 0] 51) ∧ AG = wp12.heap.size) := ⟨_, _, Lib.hid (rd_lit (sz := 3) (enc := enc3) (fun _ => rfl) wp12 51 #[.int .i64 70, .int .i64 5, .int .i64 0] [(70, 5, 0)] rfl), Lib.hid ⟨rfl, rfl⟩⟩
        rw [← HWA.out.1] at hHeld HS ⊢
        rw [← HWA.out.2]
        clear HWA
        refine wpAnyZ_take (i := 41) (v := .agg #[.slice (some ⟨AG, 0, none⟩) 1 1]) [] rfl (by kernel_rfl) (by kernel_rfl) (by kernel_rfl) (by kernel_rfl) (fun _ _ _ h => h) (Or.inl ⟨by kernel_rfl, fun w' hSw => ?_⟩) hHeld ?_
        · clear hHeld hSw
          go_simp
        simp only [Act.put, List.getElem_toArray, List.getElem_cons_zero, List.getElem_cons_succ, List.setIfInBounds_toArray, List.set_cons_zero, List.set_cons_succ]
        refine wpAnyZ_one (i := 42) (by kernel_rfl) rfl (fun K' hK => ?_)
        go_simp
        refine (prCheck_any a1 a2 none a4 none 1 c1 1 c2 0 0 3 c4 0 0 (some ⟨T, 0, none⟩) 3 3 (pkS 70) pkT (some ⟨AG, 0, none⟩) 1 1 [(70, 5, 0)] _ HS (Lib.hid (HX.out.keep hHeld)) (Lib.hid rfl) (by omega) HL (Lib.hid rfl)).mono ?_
        rintro e wk12 ⟨rfl, hb⟩
        rw [pk_c70]
        refine hK.out _ _ ?_ (fun hHeld' => ?_)
        · exact hHeld.trans (hb.mono hHeld.size)
        clear hK K'
        clear hHeld hb HS HL
        have hHeld := hHeld'
        clear hHeld'
        try simp only [Act.put, List.getElem_toArray, List.getElem_cons_zero, List.getElem_cons_succ, List.setIfInBounds_toArray, List.set_cons_zero, List.set_cons_succ]
        refine wpAnyZ_take (i := 43) (v := .bool true) [] rfl (by kernel_rfl) (by kernel_rfl) (by kernel_rfl) (by kernel_rfl) (fun _ _ _ h => h) (Or.inl ⟨by kernel_rfl, fun w' hSw => ?_⟩) hHeld ?_
        · clear hHeld hSw
          go_simp
        simp only [Act.put, List.getElem_toArray, List.getElem_cons_zero, List.getElem_cons_succ, List.setIfInBounds_toArray, List.set_cons_zero, List.set_cons_succ]
        refine wpAnyZ_take (i := 44) (v := .bool true) [] rfl (by kernel_rfl) (by kernel_rfl) (by kernel_rfl) (by kernel_rfl) (fun _ _ _ h => h) (Or.inl ⟨by kernel_rfl, fun w' hSw => ?_⟩) hHeld ?_
        · clear hHeld hSw
          go_simp
        simp only [Act.put, List.getElem_toArray, List.getElem_cons_zero, List.getElem_cons_succ, List.setIfInBounds_toArray, List.set_cons_zero, List.set_cons_succ]
        refine wpAnyZ_take (i := 46) (v := .slice (some ⟨T, 0, none⟩) 3 3) [] rfl (by kernel_rfl) (by kernel_rfl) (by kernel_rfl) (by kernel_rfl) (fun _ _ _ h => h) (Or.inl ⟨by kernel_rfl, fun w' hSw => ?_⟩) hHeld ?_
        · clear hHeld hSw
          go_simp
        simp only [Act.put, List.getElem_toArray, List.getElem_cons_zero, List.getElem_cons_succ, List.setIfInBounds_toArray, List.set_cons_zero, List.set_cons_succ]
        refine wpAnyZ_take (i := 47) (v := .agg #[.int .i64 67, .int .i64 0, .int .i64 0]) [] rfl (by kernel_rfl) (by kernel_rfl) (by kernel_rfl) (by kernel_rfl) (fun _ _ _ h => h) (Or.inl ⟨by kernel_rfl, fun w' hSw => ?_⟩) hHeld ?_
        · clear hHeld hSw
          go_simp
        simp only [Act.put, List.getElem_toArray, List.getElem_cons_zero, List.getElem_cons_succ, List.setIfInBounds_toArray, List.set_cons_zero, List.set_cons_succ]
        refine wpAnyZ_two (i := 45) (k := 48) (by kernel_rfl) rfl rfl (fun K' hK => ?_) (fun K' hK => ?_)
        · go_simp
          refine (ltenPark_any 70 _).mono ?_
          rintro e wp13 ⟨a1, c1, a2, c2, a4, c4, rfl, hs, hb, -, -, -⟩
          have HS := Lib.hid hs
          clear hs
          refine hK.out _ _ ?_ (fun hHeld' => ?_)
          · exact hHeld.trans (hb.mono hHeld.size)
          clear hK K'
          clear hHeld hb
          have hHeld := hHeld'
          clear hHeld'
          try simp only [Act.put, List.getElem_toArray, List.getElem_cons_zero, List.getElem_cons_succ, List.setIfInBounds_toArray, List.set_cons_zero, List.set_cons_succ]
          refine wpAnyZ_one (i := 48) (by kernel_rfl) rfl (fun K' hK => ?_)
          have HS := Lib.hid (HS.out.keep ((Below.refl _ _).alloc (Nat.le_refl _) (.cells #[.int .i64 67, .int .i64 0, .int .i64 0] 51)))
          go_simp
          refine hK.out _ _ ?_ (fun hHeld' => ?_)
          · exact hHeld.alloc hHeld.size _
          clear hK K'
          clear hHeld
          have hHeld := hHeld'
          clear hHeld'
          try simp only [Act.put, List.getElem_toArray, List.getElem_cons_zero, List.getElem_cons_succ, List.setIfInBounds_toArray, List.set_cons_zero, List.set_cons_succ]
          obtain ⟨WA, AG, HL, HWA⟩ : ∃ WA AG, Hid (Rd 3 enc3 WA (some ⟨AG, 0, none⟩) [(67, 0, 0)]) ∧ Hid (WA = wp13.alloc (.cells #[.int .i64 67, .int .i64 0, .int .i64 0] 51) ∧ AG = wp13.heap.size) := ⟨_, _, Lib.hid (rd_lit (sz := 3) (enc := enc3) (fun _ => rfl) wp13 51 #[.int .i64 67, .int .i64 0, .int .i64 0] [(67, 0, 0)] rfl), Lib.hid ⟨rfl, rfl⟩⟩
          rw [← HWA.out.1] at hHeld HS ⊢
          rw [← HWA.out.2]
          clear HWA
          refine wpAnyZ_take (i := 49) (v := .agg #[.slice (some ⟨AG, 0, none⟩) 1 1]) [] rfl (by kernel_rfl) (by kernel_rfl) (by kernel_rfl) (by kernel_rfl) (fun _ _ _ h => h) (Or.inl ⟨by kernel_rfl, fun w' hSw => ?_⟩) hHeld ?_
          · clear hHeld hSw
            go_simp
          simp only [Act.put, List.getElem_toArray, List.getElem_cons_zero, List.getElem_cons_succ, List.setIfInBounds_toArray, List.set_cons_zero, List.set_cons_succ]
          refine wpAnyZ_one (i := 50) (by kernel_rfl) rfl (fun K' hK => ?_)
          go_simp
          refine (prCheck_any a1 a2 none a4 none 1 c1 1 c2 0 0 3 c4 0 0 (some ⟨T, 0, none⟩) 3 3 (pkS 70) pkT (some ⟨AG, 0, none⟩) 1 1 [(67, 0, 0)] _ HS (Lib.hid (HX.out.keep hHeld)) (Lib.hid rfl) (by omega) HL (Lib.hid rfl)).mono ?_
          rintro e wk13 ⟨rfl, hb⟩
          rw [pk_c70b]
          refine hK.out _ _ ?_ (fun hHeld' => ?_)
          · exact hHeld.trans (hb.mono hHeld.size)
          clear hK K'
          clear hHeld hb HS HL
          have hHeld := hHeld'
          clear hHeld'
          try simp only [Act.put, List.getElem_toArray, List.getElem_cons_zero, List.getElem_cons_succ, List.setIfInBounds_toArray, List.set_cons_zero, List.set_cons_succ]
          refine wpAnyZ_take (i := 51) (v := .bool true) [] rfl (by kernel_rfl) (by kernel_rfl) (by kernel_rfl) (by kernel_rfl) (fun _ _ _ h => h) (Or.inl ⟨by kernel_rfl, fun w' hSw => ?_⟩) hHeld ?_
          · clear hHeld hSw
            go_simp
          simp only [Act.put, List.getElem_toArray, List.getElem_cons_zero, List.getElem_cons_succ, List.setIfInBounds_toArray, List.set_cons_zero, List.set_cons_succ]
          refine wpAnyZ_take (i := 52) (v := .bool true) [] rfl (by kernel_rfl) (by kernel_rfl) (by kernel_rfl) (by kernel_rfl) (fun _ _ _ h => h) (Or.inl ⟨by kernel_rfl, fun w' hSw => ?_⟩) hHeld ?_
          · clear hHeld hSw
            go_simp
          simp only [Act.put, List.getElem_toArray, List.getElem_cons_zero, List.getElem_cons_succ, List.setIfInBounds_toArray, List.set_cons_zero, List.set_cons_succ]
          refine wpAnyZ_take (i := 53) (v := .bool true) [] rfl (by kernel_rfl) (by kernel_rfl) (by kernel_rfl) (by kernel_rfl) (fun _ _ _ h => h) (Or.inl ⟨by kernel_rfl, fun w' hSw => ?_⟩) hHeld ?_
          · clear hHeld hSw
            go_simp
          simp only [Act.put, List.getElem_toArray, List.getElem_cons_zero, List.getElem_cons_succ, List.setIfInBounds_toArray, List.set_cons_zero, List.set_cons_succ]
          refine wpAnyZ_take (i := 55) (v := .slice (some ⟨T, 0, none⟩) 3 3) [] rfl (by kernel_rfl) (by kernel_rfl) (by kernel_rfl) (by kernel_rfl) (fun _ _ _ h => h) (Or.inl ⟨by kernel_rfl, fun w' hSw => ?_⟩) hHeld ?_
          · clear hHeld hSw
            go_simp
          simp only [Act.put, List.getElem_toArray, List.getElem_cons_zero, List.getElem_cons_succ, List.setIfInBounds_toArray, List.set_cons_zero, List.set_cons_succ]
          refine wpAnyZ_take (i := 56) (v := .agg #[.slice none 0 0]) [] rfl (by kernel_rfl) (by kernel_rfl) (by kernel_rfl) (by kernel_rfl) (fun _ _ _ h => h) (Or.inl ⟨by kernel_rfl, fun w' hSw => ?_⟩) hHeld ?_
          · clear hHeld hSw
            go_simp
          simp only [Act.put, List.getElem_toArray, List.getElem_cons_zero, List.getElem_cons_succ, List.setIfInBounds_toArray, List.set_cons_zero, List.set_cons_succ]
          refine wpAnyZ_one (i := 54) (by kernel_rfl) rfl (fun K' hK => ?_)
          go_simp
          refine (ltenPark_any 70 _).mono ?_
          rintro e wp14 ⟨a1, c1, a2, c2, a4, c4, rfl, hs, hb, -, -, -⟩
          have HS := Lib.hid hs
          clear hs
          refine hK.out _ _ ?_ (fun hHeld' => ?_)
          · exact hHeld.trans (hb.mono hHeld.size)
          clear hK K'
          clear hHeld hb
          have hHeld := hHeld'
          clear hHeld'
          try simp only [Act.put, List.getElem_toArray, List.getElem_cons_zero, List.getElem_cons_succ, List.setIfInBounds_toArray, List.set_cons_zero, List.set_cons_succ]
          refine wpAnyZ_one (i := 57) (by kernel_rfl) rfl (fun K' hK => ?_)
          go_simp
          refine (prCheck_any a1 a2 none a4 none 1 c1 1 c2 0 0 3 c4 0 0 (some ⟨T, 0, none⟩) 3 3 (pkS 70) pkT none 0 0 [] _ HS (Lib.hid (HX.out.keep hHeld)) (Lib.hid rfl) (by omega) (Lib.hid Rd.nil) (Lib.hid rfl)).mono ?_
          rintro e wk14 ⟨rfl, hb⟩
          rw [pk_c70n]
          refine hK.out _ _ ?_ (fun hHeld' => ?_)
          · exact hHeld.trans (hb.mono hHeld.size)
          clear hK K'
          clear hHeld hb HS
          have hHeld := hHeld'
          clear hHeld'
          try simp only [Act.put, List.getElem_toArray, List.getElem_cons_zero, List.getElem_cons_succ, List.setIfInBounds_toArray, List.set_cons_zero, List.set_cons_succ]
          refine wpAnyZ_take (i := 58) (v := .bool true) [] rfl (by kernel_rfl) (by kernel_rfl) (by kernel_rfl) (by kernel_rfl) (fun _ _ _ h => h) (Or.inl ⟨by kernel_rfl, fun w' hSw => ?_⟩) hHeld ?_
          · clear hHeld hSw
            go_simp
          simp only [Act.put, List.getElem_toArray, List.getElem_cons_zero, List.getElem_cons_succ, List.setIfInBounds_toArray, List.set_cons_zero, List.set_cons_succ]
          refine wpAnyZ_take (i := 59) (v := .bool true) [] rfl (by kernel_rfl) (by kernel_rfl) (by kernel_rfl) (by kernel_rfl) (fun _ _ _ h => h) (Or.inl ⟨by kernel_rfl, fun w' hSw => ?_⟩) hHeld ?_
          · clear hHeld hSw
            go_simp
          simp only [Act.put, List.getElem_toArray, List.getElem_cons_zero, List.getElem_cons_succ, List.setIfInBounds_toArray, List.set_cons_zero, List.set_cons_succ]
          refine wpAnyZ_take (i := 60) (v := .bool true) [] rfl (by kernel_rfl) (by kernel_rfl) (by kernel_rfl) (by kernel_rfl) (fun _ _ _ h => h) (Or.inl ⟨by kernel_rfl, fun w' hSw => ?_⟩) hHeld ?_
          · clear hHeld hSw
            go_simp
          simp only [Act.put, List.getElem_toArray, List.getElem_cons_zero, List.getElem_cons_succ, List.setIfInBounds_toArray, List.set_cons_zero, List.set_cons_succ]
          refine wpAnyZ_done (by kernel_rfl) ?_ _
          go_wp2_with fail
          go_meet
          exact ⟨rfl, Lib.hid hHeld⟩
        · go_simp
          refine hK.out _ _ ?_ (fun hHeld' => ?_)
          · exact hHeld.alloc hHeld.size _
          clear hK K'
          clear hHeld
          have hHeld := hHeld'
          clear hHeld'
          try simp only [Act.put, List.getElem_toArray, List.getElem_cons_zero, List.getElem_cons_succ, List.setIfInBounds_toArray, List.set_cons_zero, List.set_cons_succ]
          obtain ⟨WA, AG, HL, HWA⟩ : ∃ WA AG, Hid (Rd 3 enc3 WA (some ⟨AG, 0, none⟩) [(67, 0, 0)]) ∧ Hid (WA = wk12.alloc (.cells #[.int .i64 67, .int .i64 0, .int .i64 0] 51) ∧ AG = wk12.heap.size) := ⟨_, _, Lib.hid (rd_lit (sz := 3) (enc := enc3) (fun _ => rfl) wk12 51 #[.int .i64 67, .int .i64 0, .int .i64 0] [(67, 0, 0)] rfl), Lib.hid ⟨rfl, rfl⟩⟩
          rw [← HWA.out.1] at hHeld ⊢
          rw [← HWA.out.2]
          clear HWA
          refine wpAnyZ_take (i := 49) (v := .agg #[.slice (some ⟨AG, 0, none⟩) 1 1]) [] rfl (by kernel_rfl) (by kernel_rfl) (by kernel_rfl) (by kernel_rfl) (fun _ _ _ h => h) (Or.inl ⟨by kernel_rfl, fun w' hSw => ?_⟩) hHeld ?_
          · clear hHeld hSw
            go_simp
          simp only [Act.put, List.getElem_toArray, List.getElem_cons_zero, List.getElem_cons_succ, List.setIfInBounds_toArray, List.set_cons_zero, List.set_cons_succ]
          refine wpAnyZ_one (i := 45) (by kernel_rfl) rfl (fun K' hK => ?_)
          go_simp
          refine (ltenPark_any 70 _).mono ?_
          rintro e wp13 ⟨a1, c1, a2, c2, a4, c4, rfl, hs, hb, -, -, -⟩
          have HS := Lib.hid hs
          clear hs
          refine hK.out _ _ ?_ (fun hHeld' => ?_)
          · exact hHeld.trans (hb.mono hHeld.size)
          clear hK K'
          have HL := Lib.hid (HL.out.keep hb)
          clear hHeld hb
          have hHeld := hHeld'
          clear hHeld'
          try simp only [Act.put, List.getElem_toArray, List.getElem_cons_zero, List.getElem_cons_succ, List.setIfInBounds_toArray, List.set_cons_zero, List.set_cons_succ]
          refine wpAnyZ_one (i := 50) (by kernel_rfl) rfl (fun K' hK => ?_)
          go_simp
          refine (prCheck_any a1 a2 none a4 none 1 c1 1 c2 0 0 3 c4 0 0 (some ⟨T, 0, none⟩) 3 3 (pkS 70) pkT (some ⟨AG, 0, none⟩) 1 1 [(67, 0, 0)] _ HS (Lib.hid (HX.out.keep hHeld)) (Lib.hid rfl) (by omega) HL (Lib.hid rfl)).mono ?_
          rintro e wk13 ⟨rfl, hb⟩
          rw [pk_c70b]
          refine hK.out _ _ ?_ (fun hHeld' => ?_)
          · exact hHeld.trans (hb.mono hHeld.size)
          clear hK K'
          clear hHeld hb HS HL
          have hHeld := hHeld'
          clear hHeld'
          try simp only [Act.put, List.getElem_toArray, List.getElem_cons_zero, List.getElem_cons_succ, List.setIfInBounds_toArray, List.set_cons_zero, List.set_cons_succ]
          refine wpAnyZ_take (i := 51) (v := .bool true) [] rfl (by kernel_rfl) (by kernel_rfl) (by kernel_rfl) (by kernel_rfl) (fun _ _ _ h => h) (Or.inl ⟨by kernel_rfl, fun w' hSw => ?_⟩) hHeld ?_
          · clear hHeld hSw
            go_simp
          simp only [Act.put, List.getElem_toArray, List.getElem_cons_zero, List.getElem_cons_succ, List.setIfInBounds_toArray, List.set_cons_zero, List.set_cons_succ]
          refine wpAnyZ_take (i := 52) (v := .bool true) [] rfl (by kernel_rfl) (by kernel_rfl) (by kernel_rfl) (by kernel_rfl) (fun _ _ _ h => h) (Or.inl ⟨by kernel_rfl, fun w' hSw => ?_⟩) hHeld ?_
          · clear hHeld hSw
            go_simp
          simp only [Act.put, List.getElem_toArray, List.getElem_cons_zero, List.getElem_cons_succ, List.setIfInBounds_toArray, List.set_cons_zero, List.set_cons_succ]
          refine wpAnyZ_take (i := 53) (v := .bool true) [] rfl (by kernel_rfl) (by kernel_rfl) (by kernel_rfl) (by kernel_rfl) (fun _ _ _ h => h) (Or.inl ⟨by kernel_rfl, fun w' hSw => ?_⟩) hHeld ?_
          · clear hHeld hSw
            go_simp
          simp only [Act.put, List.getElem_toArray, List.getElem_cons_zero, List.getElem_cons_succ, List.setIfInBounds_toArray, List.set_cons_zero, List.set_cons_succ]
          refine wpAnyZ_take (i := 55) (v := .slice (some ⟨T, 0, none⟩) 3 3) [] rfl (by kernel_rfl) (by kernel_rfl) (by kernel_rfl) (by kernel_rfl) (fun _ _ _ h => h) (Or.inl ⟨by kernel_rfl, fun w' hSw => ?_⟩) hHeld ?_
          · clear hHeld hSw
            go_simp
          simp only [Act.put, List.getElem_toArray, List.getElem_cons_zero, List.getElem_cons_succ, List.setIfInBounds_toArray, List.set_cons_zero, List.set_cons_succ]
          refine wpAnyZ_take (i := 56) (v := .agg #[.slice none 0 0]) [] rfl (by kernel_rfl) (by kernel_rfl) (by kernel_rfl) (by kernel_rfl) (fun _ _ _ h => h) (Or.inl ⟨by kernel_rfl, fun w' hSw => ?_⟩) hHeld ?_
          · clear hHeld hSw
            go_simp
          simp only [Act.put, List.getElem_toArray, List.getElem_cons_zero, List.getElem_cons_succ, List.setIfInBounds_toArray, List.set_cons_zero, List.set_cons_succ]
          refine wpAnyZ_one (i := 54) (by kernel_rfl) rfl (fun K' hK => ?_)
          go_simp
          refine (ltenPark_any 70 _).mono ?_
          rintro e wp14 ⟨a1, c1, a2, c2, a4, c4, rfl, hs, hb, -, -, -⟩
          have HS := Lib.hid hs
          clear hs
          refine hK.out _ _ ?_ (fun hHeld' => ?_)
          · exact hHeld.trans (hb.mono hHeld.size)
          clear hK K'
          clear hHeld hb
          have hHeld := hHeld'
          clear hHeld'
          try simp only [Act.put, List.getElem_toArray, List.getElem_cons_zero, List.getElem_cons_succ, List.setIfInBounds_toArray, List.set_cons_zero, List.set_cons_succ]
          refine wpAnyZ_one (i := 57) (by kernel_rfl) rfl (fun K' hK => ?_)
          go_simp
          refine (prCheck_any a1 a2 none a4 none 1 c1 1 c2 0 0 3 c4 0 0 (some ⟨T, 0, none⟩) 3 3 (pkS 70) pkT none 0 0 [] _ HS (Lib.hid (HX.out.keep hHeld)) (Lib.hid rfl) (by omega) (Lib.hid Rd.nil) (Lib.hid rfl)).mono ?_
          rintro e wk14 ⟨rfl, hb⟩
          rw [pk_c70n]
          refine hK.out _ _ ?_ (fun hHeld' => ?_)
          · exact hHeld.trans (hb.mono hHeld.size)
          clear hK K'
          clear hHeld hb HS
          have hHeld := hHeld'
          clear hHeld'
          try simp only [Act.put, List.getElem_toArray, List.getElem_cons_zero, List.getElem_cons_succ, List.setIfInBounds_toArray, List.set_cons_zero, List.set_cons_succ]
          refine wpAnyZ_take (i := 58) (v := .bool true) [] rfl (by kernel_rfl) (by kernel_rfl) (by kernel_rfl) (by kernel_rfl) (fun _ _ _ h => h) (Or.inl ⟨by kernel_rfl, fun w' hSw => ?_⟩) hHeld ?_
          · clear hHeld hSw
            go_simp
          simp only [Act.put, List.getElem_toArray, List.getElem_cons_zero, List.getElem_cons_succ, List.setIfInBounds_toArray, List.set_cons_zero, List.set_cons_succ]
          refine wpAnyZ_take (i := 59) (v := .bool true) [] rfl (by kernel_rfl) (by kernel_rfl) (by kernel_rfl) (by kernel_rfl) (fun _ _ _ h => h) (Or.inl ⟨by kernel_rfl, fun w' hSw => ?_⟩) hHeld ?_
          · clear hHeld hSw
            go_simp
          simp only [Act.put, List.getElem_toArray, List.getElem_cons_zero, List.getElem_cons_succ, List.setIfInBounds_toArray, List.set_cons_zero, List.set_cons_succ]
          refine wpAnyZ_take (i := 60) (v := .bool true) [] rfl (by kernel_rfl) (by kernel_rfl) (by kernel_rfl) (by kernel_rfl) (fun _ _ _ h => h) (Or.inl ⟨by kernel_rfl, fun w' hSw => ?_⟩) hHeld ?_
          · clear hHeld hSw
            go_simp
          simp only [Act.put, List.getElem_toArray, List.getElem_cons_zero, List.getElem_cons_succ, List.setIfInBounds_toArray, List.set_cons_zero, List.set_cons_succ]
          refine wpAnyZ_done (by kernel_rfl) ?_ _
          go_wp2_with fail
          go_meet
          exact ⟨rfl, Lib.hid hHeld⟩
      · go_simp
        refine hK.out _ _ ?_ (fun hHeld' => ?_)
        · exact hHeld.alloc hHeld.size _
        clear hK K'
        clear hHeld
        have hHeld := hHeld'
        clear hHeld'
        try simp only [Act.put, List.getElem_toArray, List.getElem_cons_zero, List.getElem_cons_succ, List.setIfInBounds_toArray, List.set_cons_zero, List.set_cons_succ]
        obtain ⟨WA, AG, HL, HWA⟩ : ∃ WA AG, Hid (Rd 3 enc3 WA (some ⟨AG, 0, none⟩) [(70, 5, 0)]) ∧ Hid (WA = wk11.alloc (.cells #[.int .i64 70, .int .i64 5, .int .i64 0] 51) ∧ AG = wk11.heap.size) := ⟨_, _, Lib.hid (rd_lit (sz := 3) (enc := enc3) (fun _ => rfl) wk11 51 #[.int .i64 70, .int .i64 5, .int .i64 0] [(70, 5, 0)] rfl), Lib.hid ⟨rfl, rfl⟩⟩
        rw [← HWA.out.1] at hHeld ⊢
        rw [← HWA.out.2]
        clear HWA
        refine wpAnyZ_take (i := 41) (v := .agg #[.slice (some ⟨AG, 0, none⟩) 1 1]) [] rfl (by kernel_rfl) (by kernel_rfl) (by kernel_rfl) (by kernel_rfl) (fun _ _ _ h => h) (Or.inl ⟨by kernel_rfl, fun w' hSw => ?_⟩) hHeld ?_
        · clear hHeld hSw
          go_simp
        simp only [Act.put, List.getElem_toArray, List.getElem_cons_zero, List.getElem_cons_succ, List.setIfInBounds_toArray, List.set_cons_zero, List.set_cons_succ]
        refine wpAnyZ_one (i := 37) (by kernel_rfl) rfl (fun K' hK => ?_)
        go_simp
        refine (ltenPark_any 70 _).mono ?_
        rintro e wp12 ⟨a1, c1, a2, c2, a4, c4, rfl, hs, hb, -, -, -⟩
        have HS := Lib.hid hs
        clear hs
        refine hK.out _ _ ?_ (fun hHeld' => ?_)
        · exact hHeld.trans (hb.mono hHeld.size)
        clear hK K'
        have HL := Lib.hid (HL.out.keep hb)
        clear hHeld hb
        have hHeld := hHeld'
        clear hHeld'
        try simp only [Act.put, List.getElem_toArray, List.getElem_cons_zero, List.getElem_cons_succ, List.setIfInBounds_toArray, List.set_cons_zero, List.set_cons_succ]
        refine wpAnyZ_one (i := 42) (by kernel_rfl) rfl (fun K' hK => ?_)
        go_simp
        refine (prCheck_any a1 a2 none a4 none 1 c1 1 c2 0 0 3 c4 0 0 (some ⟨T, 0, none⟩) 3 3 (pkS 70) pkT (some ⟨AG, 0, none⟩) 1 1 [(70, 5, 0)] _ HS (Lib.hid (HX.out.keep hHeld)) (Lib.hid rfl) (by omega) HL (Lib.hid rfl)).mono ?_
        rintro e wk12 ⟨rfl, hb⟩
        rw [pk_c70]
        refine hK.out _ _ ?_ (fun hHeld' => ?_)
        · exact hHeld.trans (hb.mono hHeld.size)
        clear hK K'
        clear hHeld hb HS HL
        have hHeld := hHeld'
        clear hHeld'
        try simp only [Act.put, List.getElem_toArray, List.getElem_cons_zero, List.getElem_cons_succ, List.setIfInBounds_toArray, List.set_cons_zero, List.set_cons_succ]
        refine wpAnyZ_take (i := 43) (v := .bool true) [] rfl (by kernel_rfl) (by kernel_rfl) (by kernel_rfl) (by kernel_rfl) (fun _ _ _ h => h) (Or.inl ⟨by kernel_rfl, fun w' hSw => ?_⟩) hHeld ?_
        · clear hHeld hSw
          go_simp
        simp only [Act.put, List.getElem_toArray, List.getElem_cons_zero, List.getElem_cons_succ, List.setIfInBounds_toArray, List.set_cons_zero, List.set_cons_succ]
        refine wpAnyZ_take (i := 44) (v := .bool true) [] rfl (by kernel_rfl) (by kernel_rfl) (by kernel_rfl) (by kernel_rfl) (fun _ _ _ h => h) (Or.inl ⟨by kernel_rfl, fun w' hSw => ?_⟩) hHeld ?_
        · clear hHeld hSw
          go_simp
        simp only [Act.put, List.getElem_toArray, List.getElem_cons_zero, List.getElem_cons_succ, List.setIfInBounds_toArray, List.set_cons_zero, List.set_cons_succ]
        refine wpAnyZ_take (i := 46) (v := .slice (some ⟨T, 0, none⟩) 3 3) [] rfl (by kernel_rfl) (by kernel_rfl) (by kernel_rfl) (by kernel_rfl) (fun _ _ _ h => h) (Or.inl ⟨by kernel_rfl, fun w' hSw => ?_⟩) hHeld ?_
        · clear hHeld hSw
          go_simp
        simp only [Act.put, List.getElem_toArray, List.getElem_cons_zero, List.getElem_cons_succ, List.setIfInBounds_toArray, List.set_cons_zero, List.set_cons_succ]
        refine wpAnyZ_take (i := 47) (v := .agg #[.int .i64 67, .int .i64 0, .int .i64 0]) [] rfl (by kernel_rfl) (by kernel_rfl) (by kernel_rfl) (by kernel_rfl) (fun _ _ _ h => h) (Or.inl ⟨by kernel_rfl, fun w' hSw => ?_⟩) hHeld ?_
        · clear hHeld hSw
          go_simp
        simp only [Act.put, List.getElem_toArray, List.getElem_cons_zero, List.getElem_cons_succ, List.setIfInBounds_toArray, List.set_cons_zero, List.set_cons_succ]
        refine wpAnyZ_two (i := 45) (k := 48) (by kernel_rfl) rfl rfl (fun K' hK => ?_) (fun K' hK => ?_)
        · go_simp
          refine (ltenPark_any 70 _).mono ?_
          rintro e wp13 ⟨a1, c1, a2, c2, a4, c4, rfl, hs, hb, -, -, -⟩
          have HS := Lib.hid hs
          clear hs
          refine hK.out _ _ ?_ (fun hHeld' => ?_)
          · exact hHeld.trans (hb.mono hHeld.size)
          clear hK K'
          clear hHeld hb
          have hHeld := hHeld'
          clear hHeld'
          try simp only [Act.put, List.getElem_toArray, List.getElem_cons_zero, List.getElem_cons_succ, List.setIfInBounds_toArray, List.set_cons_zero, List.set_cons_succ]
          refine wpAnyZ_one (i := 48) (by kernel_rfl) rfl (fun K' hK => ?_)
          have HS := Lib.hid (HS.out.keep ((Below.refl _ _).alloc (Nat.le_refl _) (.cells #[.int .i64 67, .int .i64 0, .int .i64 0] 51)))
          go_simp
          refine hK.out _ _ ?_ (fun hHeld' => ?_)
          · exact hHeld.alloc hHeld.size _
          clear hK K'
          clear hHeld
          have hHeld := hHeld'
          clear hHeld'
          try simp only [Act.put, List.getElem_toArray, List.getElem_cons_zero, List.getElem_cons_succ, List.setIfInBounds_toArray, List.set_cons_zero, List.set_cons_succ]
          obtain ⟨WA, AG, HL, HWA⟩ : ∃ WA AG, Hid (Rd 3 enc3 WA (some ⟨AG, 0, none⟩) [(67, 0, 0)]) ∧ Hid (WA = wp13.alloc (.cells #[.int .i64 67, .int .i64 0, .int .i64 0] 51) ∧ AG = wp13.heap.size) := ⟨_, _, Lib.hid (rd_lit (sz := 3) (enc := enc3) (fun _ => rfl) wp13 51 #[.int .i64 67, .int .i64 0, .int .i64 0] [(67, 0, 0)] rfl), Lib.hid ⟨rfl, rfl⟩⟩
          rw [← HWA.out.1] at hHeld HS ⊢
          rw [← HWA.out.2]
          clear HWA
          refine wpAnyZ_take (i := 49) (v := .agg #[.slice (some ⟨AG, 0, none⟩) 1 1]) [] rfl (by kernel_rfl) (by kernel_rfl) (by kernel_rfl) (by kernel_rfl) (fun _ _ _ h => h) (Or.inl ⟨by kernel_rfl, fun w' hSw => ?_⟩) hHeld ?_
          · clear hHeld hSw
            go_simp
          simp only [Act.put, List.getElem_toArray, List.getElem_cons_zero, List.getElem_cons_succ, List.setIfInBounds_toArray, List.set_cons_zero, List.set_cons_succ]
          refine wpAnyZ_one (i := 50) (by kernel_rfl) rfl (fun K' hK => ?_)
          go_simp
          refine (prCheck_any a1 a2 none a4 none 1 c1 1 c2 0 0 3 c4 0 0 (some ⟨T, 0, none⟩) 3 3 (pkS 70) pkT (some ⟨AG, 0, none⟩) 1 1 [(67, 0, 0)] _ HS (Lib.hid (HX.out.keep hHeld)) (Lib.hid rfl) (by omega) HL (Lib.hid rfl)).mono ?_
          rintro e wk13 ⟨rfl, hb⟩
          rw [pk_c70b]
          refine hK.out _ _ ?_ (fun hHeld' => ?_)
          · exact hHeld.trans (hb.mono hHeld.size)
          clear hK K'
          clear hHeld hb HS HL
          have hHeld := hHeld'
          clear hHeld'
          try simp only [Act.put, List.getElem_toArray, List.getElem_cons_zero, List.getElem_cons_succ, List.setIfInBounds_toArray, List.set_cons_zero, List.set_cons_succ]
          refine wpAnyZ_take (i := 51) (v := .bool true) [] rfl (by kernel_rfl) (by kernel_rfl) (by kernel_rfl) (by kernel_rfl) (fun _ _ _ h => h) (Or.inl ⟨by kernel_rfl, fun w' hSw => ?_⟩) hHeld ?_
          · clear hHeld hSw
            go_simp
          simp only [Act.put, List.getElem_toArray, List.getElem_cons_zero, List.getElem_cons_succ, List.setIfInBounds_toArray, List.set_cons_zero, List.set_cons_succ]
          refine wpAnyZ_take (i := 52) (v := .bool true) [] rfl (by kernel_rfl) (by kernel_rfl) (by kernel_rfl) (by kernel_rfl) (fun _ _ _ h => h) (Or.inl ⟨by kernel_rfl, fun w' hSw => ?_⟩) hHeld ?_
          · clear hHeld hSw
            go_simp
          simp only [Act.put, List.getElem_toArray, List.getElem_cons_zero, List.getElem_cons_succ, List.setIfInBounds_toArray, List.set_cons_zero, List.set_cons_succ]
          refine wpAnyZ_take (i := 53) (v := .bool true) [] rfl (by kernel_rfl) (by kernel_rfl) (by kernel_rfl) (by kernel_rfl) (fun _ _ _ h => h) (Or.inl ⟨by kernel_rfl, fun w' hSw => ?_⟩) hHeld ?_
          · clear hHeld hSw
            go_simp
          simp only [Act.put, List.getElem_toArray, List.getElem_cons_zero, List.getElem_cons_succ, List.setIfInBounds_toArray, List.set_cons_zero, List.set_cons_succ]
          refine wpAnyZ_take (i := 55) (v := .slice (some ⟨T, 0, none⟩) 3 3) [] rfl (by kernel_rfl) (by kernel_rfl) (by kernel_rfl) (by kernel_rfl) (fun _ _ _ h => h) (Or.inl ⟨by kernel_rfl, fun w' hSw => ?_⟩) hHeld ?_
          · clear hHeld hSw
            go_simp
          simp only [Act.put, List.getElem_toArray, List.getElem_cons_zero, List.getElem_cons_succ, List.setIfInBounds_toArray, List.set_cons_zero, List.set_cons_succ]
          refine wpAnyZ_take (i := 56) (v := .agg #[.slice none 0 0]) [] rfl (by kernel_rfl) (by kernel_rfl) (by kernel_rfl) (by kernel_rfl) (fun _ _ _ h => h) (Or.inl ⟨by kernel_rfl, fun w' hSw => ?_⟩) hHeld ?_
          · clear hHeld hSw
            go_simp
          simp only [Act.put, List.getElem_toArray, List.getElem_cons_zero, List.getElem_cons_succ, List.setIfInBounds_toArray, List.set_cons_zero, List.set_cons_succ]
          refine wpAnyZ_one (i := 54) (by kernel_rfl) rfl (fun K' hK => ?_)
          go_simp
          refine (ltenPark_any 70 _).mono ?_
          rintro e wp14 ⟨a1, c1, a2, c2, a4, c4, rfl, hs, hb, -, -, -⟩
          have HS := Lib.hid hs
          clear hs
          refine hK.out _ _ ?_ (fun hHeld' => ?_)
          · exact hHeld.trans (hb.mono hHeld.size)
          clear hK K'
          clear hHeld hb
          have hHeld := hHeld'
          clear hHeld'
          try simp only [Act.put, List.getElem_toArray, List.getElem_cons_zero, List.getElem_cons_succ, List.setIfInBounds_toArray, List.set_cons_zero, List.set_cons_succ]
          refine wpAnyZ_one (i := 57) (by kernel_rfl) rfl (fun K' hK => ?_)
          go_simp
          refine (prCheck_any a1 a2 none a4 none 1 c1 1 c2 0 0 3 c4 0 0 (some ⟨T, 0, none⟩) 3 3 (pkS 70) pkT none 0 0 [] _ HS (Lib.hid (HX.out.keep hHeld)) (Lib.hid rfl) (by omega) (Lib.hid Rd.nil) (Lib.hid rfl)).mono ?_
          rintro e wk14 ⟨rfl, hb⟩
          rw [pk_c70n]
          refine hK.out _ _ ?_ (fun hHeld' => ?_)
          · exact hHeld.trans (hb.mono hHeld.size)
          clear hK K'
          clear hHeld hb HS
          have hHeld := hHeld'
          clear hHeld'
          try simp only [Act.put, List.getElem_toArray, List.getElem_cons_zero, List.getElem_cons_succ, List.setIfInBounds_toArray, List.set_cons_zero, List.set_cons_succ]
          refine wpAnyZ_take (i := 58) (v := .bool true) [] rfl (by kernel_rfl) (by kernel_rfl) (by kernel_rfl) (by kernel_rfl) (fun _ _ _ h => h) (Or.inl ⟨by kernel_rfl, fun w' hSw => ?_⟩) hHeld ?_
          · clear hHeld hSw
            go_simp
          simp only [Act.put, List.getElem_toArray, List.getElem_cons_zero, List.getElem_cons_succ, List.setIfInBounds_toArray, List.set_cons_zero, List.set_cons_succ]
          refine wpAnyZ_take (i := 59) (v := .bool true) [] rfl (by kernel_rfl) (by kernel_rfl) (by kernel_rfl) (by kernel_rfl) (fun _ _ _ h => h) (Or.inl ⟨by kernel_rfl, fun w' hSw => ?_⟩) hHeld ?_
          · clear hHeld hSw
            go_simp
          simp only [Act.put, List.getElem_toArray, List.getElem_cons_zero, List.getElem_cons_succ, List.setIfInBounds_toArray, List.set_cons_zero, List.set_cons_succ]
          refine wpAnyZ_take (i := 60) (v := .bool true) [] rfl (by kernel_rfl) (by kernel_rfl) (by kernel_rfl) (by kernel_rfl) (fun _ _ _ h => h) (Or.inl ⟨by kernel_rfl, fun w' hSw => ?_⟩) hHeld ?_
          · clear hHeld hSw
            go_simp
          simp only [Act.put, List.getElem_toArray, List.getElem_cons_zero, List.getElem_cons_succ, List.setIfInBounds_toArray, List.set_cons_zero, List.set_cons_succ]
          refine wpAnyZ_done (by kernel_rfl) ?_ _
          go_wp2_with fail
          go_meet
          exact ⟨rfl, Lib.hid hHeld⟩
        · go_simp
          refine hK.out _ _ ?_ (fun hHeld' => ?_)
          · exact hHeld.alloc hHeld.size _
          clear hK K'
          clear hHeld
          have hHeld := hHeld'
          clear hHeld'
          try simp only [Act.put, List.getElem_toArray, List.getElem_cons_zero, List.getElem_cons_succ, List.setIfInBounds_toArray, List.set_cons_zero, List.set_cons_succ]
          obtain ⟨WA, AG, HL, HWA⟩ : ∃ WA AG, Hid (Rd 3 enc3 WA (some ⟨AG, 0, none⟩) [(67, 0, 0)]) ∧ Hid (WA = wk12.alloc (.cells #[.int .i64 67, .int .i64 0, .int .i64 0] 51) ∧ AG = wk12.heap.size) := ⟨_, _, Lib.hid (rd_lit (sz := 3) (enc := enc3) (fun _ => rfl) wk12 51 #[.int .i64 67, .int .i64 0, .int .i64 0] [(67, 0, 0)] rfl), Lib.hid ⟨rfl, rfl⟩⟩
          rw [← HWA.out.1] at hHeld ⊢
          rw [← HWA.out.2]
          clear HWA
          refine wpAnyZ_take (i := 49) (v := .agg #[.slice (some ⟨AG, 0, none⟩) 1 1]) [] rfl (by kernel_rfl) (by kernel_rfl) (by kernel_rfl) (by kernel_rfl) (fun _ _ _ h => h) (Or.inl ⟨by kernel_rfl, fun w' hSw => ?_⟩) hHeld ?_
          · clear hHeld hSw
            go_simp
          simp only [Act.put, List.getElem_toArray, List.getElem_cons_zero, List.getElem_cons_succ, List.setIfInBounds_toArray, List.set_cons_zero, List.set_cons_succ]
          refine wpAnyZ_one (i := 45) (by kernel_rfl) rfl (fun K' hK => ?_)
          go_simp
          refine (ltenPark_any 70 _).mono ?_
          rintro e wp13 ⟨a1, c1, a2, c2, a4, c4, rfl, hs, hb, -, -, -⟩
          have HS := Lib.hid hs
          clear hs
          refine hK.out _ _ ?_ (fun hHeld' => ?_)
          · exact hHeld.trans (hb.mono hHeld.size)
          clear hK K'
          have HL := Lib.hid (HL.out.keep hb)
          clear hHeld hb
          have hHeld := hHeld'
          clear hHeld'
          try simp only [Act.put, List.getElem_toArray, List.getElem_cons_zero, List.getElem_cons_succ, List.setIfInBounds_toArray, List.set_cons_zero, List.set_cons_succ]
          refine wpAnyZ_one (i := 50) (by kernel_rfl) rfl (fun K' hK => ?_)
          go_simp
          refine (prCheck_any a1 a2 none a4 none 1 c1 1 c2 0 0 3 c4 0 0 (some ⟨T, 0, none⟩) 3 3 (pkS 70) pkT (some ⟨AG, 0, none⟩) 1 1 [(67, 0, 0)] _ HS (Lib.hid (HX.out.keep hHeld)) (Lib.hid rfl) (by omega) HL (Lib.hid rfl)).mono ?_
          rintro e wk13 ⟨rfl, hb⟩
          rw [pk_c70b]
          refine hK.out _ _ ?_ (fun hHeld' => ?_)
          · exact hHeld.trans (hb.mono hHeld.size)
          clear hK K'
          clear hHeld hb HS HL
          have hHeld := hHeld'
          clear hHeld'
          try simp only [Act.put, List.getElem_toArray, List.getElem_cons_zero, List.getElem_cons_succ, List.setIfInBounds_toArray, List.set_cons_zero, List.set_cons_succ]
          refine wpAnyZ_take (i := 51) (v := .bool true) [] rfl (by kernel_rfl) (by kernel_rfl) (by kernel_rfl) (by kernel_rfl) (fun _ _ _ h => h) (Or.inl ⟨by kernel_rfl, fun w' hSw => ?_⟩) hHeld ?_
          · clear hHeld hSw
            go_simp
          simp only [Act.put, List.getElem_toArray, List.getElem_cons_zero, List.getElem_cons_succ, List.setIfInBounds_toArray, List.set_cons_zero, List.set_cons_succ]
          refine wpAnyZ_take (i := 52) (v := .bool true) [] rfl (by kernel_rfl) (by kernel_rfl) (by kernel_rfl) (by kernel_rfl) (fun _ _ _ h => h) (Or.inl ⟨by kernel_rfl, fun w' hSw => ?_⟩) hHeld ?_
          · clear hHeld hSw
            go_simp
          simp only [Act.put, List.getElem_toArray, List.getElem_cons_zero, List.getElem_cons_succ, List.setIfInBounds_toArray, List.set_cons_zero, List.set_cons_succ]
          refine wpAnyZ_take (i := 53) (v := .bool true) [] rfl (by kernel_rfl) (by kernel_rfl) (by kernel_rfl) (by kernel_rfl) (fun _ _ _ h => h) (Or.inl ⟨by kernel_rfl, fun w' hSw => ?_⟩) hHeld ?_
          · clear hHeld hSw
            go_simp
          simp only [Act.put, List.getElem_toArray, List.getElem_cons_zero, List.getElem_cons_succ, List.setIfInBounds_toArray, List.set_cons_zero, List.set_cons_succ]
          refine wpAnyZ_take (i := 55) (v := .slice (some ⟨T, 0, none⟩) 3 3) [] rfl (by kernel_rfl) (by kernel_rfl) (by kernel_rfl) (by kernel_rfl) (fun _ _ _ h => h) (Or.inl ⟨by kernel_rfl, fun w' hSw => ?_⟩) hHeld ?_
          · clear hHeld hSw
            go_simp
          simp only [Act.put, List.getElem_toArray, List.getElem_cons_zero, List.getElem_cons_succ, List.setIfInBounds_toArray, List.set_cons_zero, List.set_cons_succ]
          refine wpAnyZ_take (i := 56) (v := .agg #[.slice none 0 0]) [] rfl (by kernel_rfl) (by kernel_rfl) (by kernel_rfl) (by kernel_rfl) (fun _ _ _ h => h) (Or.inl ⟨by kernel_rfl, fun w' hSw => ?_⟩) hHeld ?_
          · clear hHeld hSw
            go_simp
          simp only [Act.put, List.getElem_toArray, List.getElem_cons_zero, List.getElem_cons_succ, List.setIfInBounds_toArray, List.set_cons_zero, List.set_cons_succ]
          refine wpAnyZ_one (i := 54) (by kernel_rfl) rfl (fun K' hK => ?_)
          go_simp
          refine (ltenPark_any 70 _).mono ?_
          rintro e wp14 ⟨a1, c1, a2, c2, a4, c4, rfl, hs, hb, -, -, -⟩
          have HS := Lib.hid hs
          clear hs
          refine hK.out _ _ ?_ (fun hHeld' => ?_)
          · exact hHeld.trans (hb.mono hHeld.size)
          clear hK K'
          clear hHeld hb
          have hHeld := hHeld'
          clear hHeld'
          try simp only [Act.put, List.getElem_toArray, List.getElem_cons_zero, List.getElem_cons_succ, List.setIfInBounds_toArray, List.set_cons_zero, List.set_cons_succ]
          refine wpAnyZ_one (i := 57) (by kernel_rfl) rfl (fun K' hK => ?_)
          go_simp
          refine (prCheck_any a1 a2 none a4 none 1 c1 1 c2 0 0 3 c4 0 0 (some ⟨T, 0, none⟩) 3 3 (pkS 70) pkT none 0 0 [] _ HS (Lib.hid (HX.out.keep hHeld)) (Lib.hid rfl) (by omega) (Lib.hid Rd.nil) (Lib.hid rfl)).mono ?_
          rintro e wk14 ⟨rfl, hb⟩
          rw [pk_c70n]
          refine hK.out _ _ ?_ (fun hHeld' => ?_)
          · exact hHeld.trans (hb.mono hHeld.size)
          clear hK K'
          clear hHeld hb HS
          have hHeld := hHeld'
          clear hHeld'
          try simp only [Act.put, List.getElem_toArray, List.getElem_cons_zero, List.getElem_cons_succ, List.setIfInBounds_toArray, List.set_cons_zero, List.set_cons_succ]
          refine wpAnyZ_take (i := 58) (v := .bool true) [] rfl (by kernel_rfl) (by kernel_rfl) (by kernel_rfl) (by kernel_rfl) (fun _ _ _ h => h) (Or.inl ⟨by kernel_rfl, fun w' hSw => ?_⟩) hHeld ?_
          · clear hHeld hSw
            go_simp
          simp only [Act.put, List.getElem_toArray, List.getElem_cons_zero, List.getElem_cons_succ, List.setIfInBounds_toArray, List.set_cons_zero, List.set_cons_succ]
          refine wpAnyZ_take (i := 59) (v := .bool true) [] rfl (by kernel_rfl) (by kernel_rfl) (by kernel_rfl) (by kernel_rfl) (fun _ _ _ h => h) (Or.inl ⟨by kernel_rfl, fun w' hSw => ?_⟩) hHeld ?_
          · clear hHeld hSw
            go_simp
          simp only [Act.put, List.getElem_toArray, List.getElem_cons_zero, List.getElem_cons_succ, List.setIfInBounds_toArray, List.set_cons_zero, List.set_cons_succ]
          refine wpAnyZ_take (i := 60) (v := .bool true) [] rfl (by kernel_rfl) (by kernel_rfl) (by kernel_rfl) (by kernel_rfl) (fun _ _ _ h => h) (Or.inl ⟨by kernel_rfl, fun w' hSw => ?_⟩) hHeld ?_
          · clear hHeld hSw
            go_simp
          simp only [Act.put, List.getElem_toArray, List.getElem_cons_zero, List.getElem_cons_succ, List.setIfInBounds_toArray, List.set_cons_zero, List.set_cons_succ]
          refine wpAnyZ_done (by kernel_rfl) ?_ _
          go_wp2_with fail
          go_meet
          exact ⟨rfl, Lib.hid hHeld⟩
    case rest =>
      obtain ⟨rfl, HBC⟩ := hcut
      have HB := Lib.hid (below_then HB.out HBC.out)
      go_wp2_with fail
      go_ret
      exact ⟨rfl, HB.out⟩
end Go.Proofs.YtbjmpfchapggfaaGreat
