/-
Two controllers: control: isNew.
-/
import Derived.Test.YtkbbapefgifagaaGreatDoorGTwY3
import Derived.Test.YtkbbapefgifagaaGreatDoorGLTreeA
namespace Go.Proofs.YtkbbapefgifagaaGreatDoor
open Go.RowKit Go.Shelf
set_option linter.unusedVariables false
set_option linter.unusedSimpArgs false
attribute [local go_sem] Oper.semAt_some
/-- What a round of isNew leaves. -/
structure NwI (w : World) (B C : Nat) (i am : Int) (W : World) : Prop where
  b0 : W.cell? ⟨B, 0, none⟩ = some (.pointer (some ⟨C, 0, none⟩))
  b1 : W.cell? ⟨B + 1, 0, none⟩ = some (.int .i64 i)
  b2 : W.cell? ⟨B + 2, 0, none⟩ = some (.int .i64 am)
  ob : Own W (B + 3) 4 1 (fun _ => .bool false)
  bel : Below w.heap.size w W
  sz : B + 5 ≤ W.heap.size
theorem NwI.keep {w W W' : World} {B C : Nat} {i am : Int} (h : NwI w B C i am W) (hb : Below W.heap.size W W') : NwI w B C i am W' :=
  ⟨(hb.cell (zb h.b0)).trans h.b0, (hb.cell (zb h.b1)).trans h.b1, (hb.cell (zb h.b2)).trans h.b2, h.ob.keep hb h.ob.lt, below_then h.bel hb, Nat.le_trans h.sz hb.size⟩
theorem NwI.nc {w W W' : World} {B C : Nat} {i am : Int} {D : Nat} (h : NwI w B C i am W) (hn : Nc D W W') (hD : w.heap.size ≤ D) : NwI w B C i am W' :=
  ⟨cell_nc1 h.b0 hn, cell_nc1 h.b1 hn, cell_nc1 h.b2 hn, h.ob.nc hn, below_nc h.bel (Nat.le_refl _) hn hD, Nat.le_trans h.sz (nc_size hn)⟩
def NwA (B : Nat) (x : Lse) (a' : Act) (W : World) : Prop := ∃ Y u0 u1 u2 u7 u9 u10 u11 u12 u13 u14 u15 u16 u17 u18 u19 u20 u21 u22 u23 u24 u25 u26 u27 u28 u29 u30 u31 u32 u33 u34 u35 u36 u37 u38 u39 u40 u41 u42 u43 u44, a' = ⟨List.toArray (u0 :: u1 :: u2 :: (.pointer (some ⟨B, 0, none⟩)) :: (.pointer (some ⟨B + 1, 0, none⟩)) :: (.pointer (some ⟨B + 2, 0, none⟩)) :: (.pointer (some ⟨B + 3, 0, none⟩)) :: u7 :: (.pointer (some ⟨Y, 0, none⟩)) :: u9 :: u10 :: u11 :: u12 :: u13 :: u14 :: u15 :: u16 :: u17 :: u18 :: u19 :: u20 :: u21 :: u22 :: u23 :: u24 :: u25 :: u26 :: u27 :: u28 :: u29 :: u30 :: u31 :: u32 :: u33 :: u34 :: u35 :: u36 :: u37 :: u38 :: u39 :: u40 :: u41 :: u42 :: u43 :: u44 :: []), []⟩ ∧ Own W Y 96 5 (lsF x) ∧ B + 5 ≤ Y
set_option maxRecDepth 100000 in
set_option maxHeartbeats 8000000 in
theorem coIsNew_any (C n1 c1 n2 c2 n3 c3 bC oC c4 n5 c5 nL cL bD oD cD bO oO cO n : Nat) (a1 a2 a3 a5 aL : Option Addr) (tick : Int) (s : GSite) (ls : List Lse) (i : Nat) (am : Int) (w : World) (HC : Hid (DcC C n1 c1 n2 c2 n3 c3 bC oC c4 n5 c5 nL cL bD oD cD bO oO cO n a1 a2 a3 a5 aL tick w)) (HCH : Hid (ChC bC oC n s w)) (HX : Hid (Rd 5 encLse w aL ls)) (HNL : Hid (ls.length = nL)) (hn64 : nL ≤ 64) (hi : i < n) (ht0 : 0 ≤ tick) (ht1 : tick ≤ 1000000) :
    Calls Tryz.prog 45 #[.pointer (some ⟨C, 0, none⟩), .int .i64 (i : Nat), .int .i64 am] w fun e w' => (∃ b, e = .returned (.bool b)) ∧ Below w.heap.size w w' := by
  have hiz : (i : Int) < (n : Int) := by omega
  refine (callsIn_wide (n := 5)).1 ?_
  refine callsIn_of_wp_marks Tryz.func45 rfl trivial ?_ rfl
  refine wpIn_wide.2 ?_
  simp only [Tryz.ntmps45, List.size_toArray, List.length_cons, List.length_nil, Nat.reduceAdd, Nat.reduceSub, Array.replicate_succ, Array.replicate_zero, List.push_toArray, List.append_toArray, List.nil_append, List.cons_append]
  obtain ⟨B, hB⟩ : ∃ B, B = w.heap.size := ⟨_, rfl⟩
  obtain ⟨W0, hW0⟩ : ∃ W, W = (((w.alloc (.cells #[.pointer (some ⟨C, 0, none⟩)] 115)).alloc (.cells #[.int .i64 (i : Nat)] 3)).alloc (.cells #[.int .i64 am] 3)).alloc (.cells #[.bool false] 4) := ⟨_, rfl⟩
  have hb0 : Below w.heap.size w W0 := by rw [hW0]; exact ((((Below.refl _ _).alloc (Nat.le_refl _) _).alloc (by simp) _).alloc (by simp; omega) _).alloc (by simp; omega) _
  obtain ⟨b0, b1, b2⟩ : W0.cell? ⟨B, 0, none⟩ = some (.pointer (some ⟨C, 0, none⟩)) ∧ W0.cell? ⟨B + 1, 0, none⟩ = some (.int .i64 (i : Nat)) ∧ W0.cell? ⟨B + 2, 0, none⟩ = some (.int .i64 am) := by rw [hW0, hB]; exact ⟨by go_simp, by go_simp, by go_simp⟩
  have hO : Own W0 (B + 3) 4 1 (fun _ => .bool false) := by
    have h := Own.one (((w.alloc (.cells #[.pointer (some ⟨C, 0, none⟩)] 115)).alloc (.cells #[.int .i64 (i : Nat)] 3)).alloc (.cells #[.int .i64 am] 3)) 4 (.bool false)
    simp only [World.size_alloc] at h
    rw [hW0, hB]; exact h
  have hs0 : W0.heap.size = B + 4 := by rw [hW0, hB]; simp
  have k3 := (HC.out.keep hb0).k3
  have g6 := ((HCH.out.keep hb0) i hi).2.2.2.2.2.2.1
  have l0 : B < W0.heap.size := zb b0
  have l1 : B + 1 < W0.heap.size := zb b1
  have l2 : B + 2 < W0.heap.size := zb b2
  have lC : C < W0.heap.size := zb k3
  have lbC : bC < W0.heap.size := zb g6
  have HBq := Lib.hid hB
  have HB0 := Lib.hid hb0
  have HO := Lib.hid hO
  have HS0 := Lib.hid hs0
  have HW0 := Lib.hid (And.intro hW0.symm hB.symm)
  clear hb0 hO hs0 hW0 hB
  go_upto_region 1 with (fail)
  try simp only [World.size_alloc]
  rw [HW0.out.1, HW0.out.2]
  clear HW0
  have hdn : ∀ k, W0.drewN k = W0.drewN k := fun _ => rfl
  clear hdn
  by_cases hle : am ≤ 0
  · have cO := HO.out.cell (i := 0) (by omega)
    have fO := HO.out.frozen 0
    have lO := HO.out.lt
    go_quiet (fail)
    rename_i nq
    have HOn : Hid (Own ((W0.drewN nq).setCell ⟨B + 3, 0, none⟩ (.bool false)) (B + 3) 4 1 (fun _ => .bool false)) := Lib.hid ((HO.out.drewN nq).set1 _)
    have HBn : Hid (Below w.heap.size w ((W0.drewN nq).setCell ⟨B + 3, 0, none⟩ (.bool false))) := Lib.hid ((below_drewN HB0.out nq).trans (((Mod.refl (fun j => j = B + 3) (W0.drewN nq)).setCell (p := ⟨B + 3, 0, none⟩) (.inl rfl) _).below (B := w.heap.size) (by have := HB0.out.size; exact this) (fun j _ h => by have := HBq.out; omega)))
    clear HO k3 g6 b0 b1 b2
    go_wp2_with fail
    refine leaves_marks (B := w.heap.size) _ _ (Marks.nil _ _) (fun W3 hT => ?_)
    exact ⟨_, results_c1 (a := 6) (ty := 4) (b := B + 3) (by kernel_rfl) rfl (load_bool (hT.own HOn.out)), ⟨_, rfl⟩, HBn.out.trans (taken_below1 hT (Nat.le_refl _))⟩
  · go_quiet (fail)
    rename_i nq
    obtain ⟨W2, hW2⟩ : ∃ W, W = W0.drewN nq := ⟨_, rfl⟩
    have hb2 : Below W0.heap.size W0 W2 := by rw [hW2]; exact below_drewN (Below.refl _ _) nq
    have HO2 := Lib.hid (HO.out.keep hb2 HO.out.lt)
    have HB2 := Lib.hid (below_then HB0.out hb2)
    have hs2 : W2.heap.size = B + 4 := by rw [hW2]; exact HS0.out
    have k1 := (HC.out.keep HB2.out).k5
    have p0 := (hb2.cell (zb b0)).trans b0
    have p1 := (hb2.cell (zb b1)).trans b1
    have p2 := (hb2.cell (zb b2)).trans b2
    have m0 : B < W2.heap.size := zb p0
    have mC : C < W2.heap.size := zb k1
    rw [← hW2]
    have HS2 := Lib.hid hs2
    clear hW2 HO HB0 HS0 b0 b1 b2 k3 g6 l0 l1 l2 lC lbC hb2 hs2
    go_wp2_with fail
    refine (sBackL_any aL nL cL W2).mono ?_
    rintro e W7 ⟨rfl, hW7⟩
    have hb7 : Below W2.heap.size W2 W7 := by rw [hW7]; exact (Below.refl _ _).alloc (Nat.le_refl _) _
    have z1 : W7.cell? ⟨B + 4, 0, none⟩ = some (.slice aL nL cL) := by rw [hW7, ← HS2.out]; go_simp
    have hs7 : W7.heap.size = B + 5 := by rw [hW7]; simp; have := HS2.out; omega
    rw [HS2.out]
    have HI7 : Hid (NwI w B C (i : Nat) am W7) := Lib.hid ⟨(hb7.cell (zb p0)).trans p0, (hb7.cell (zb p1)).trans p1, (hb7.cell (zb p2)).trans p2, HO2.out.keep hb7 HO2.out.lt, below_then HB2.out hb7, by omega⟩
    have HS7 : Hid (W7.heap.size = B + 5 ∧ w.heap.size ≤ B) := Lib.hid ⟨hs7, by have := HBq.out; omega⟩
    have HCL : Hid (C < B) := Lib.hid (by have h := zb HC.out.k0; rw [HBq.out]; exact h)
    clear hW7 hs7 p0 p1 p2 k1 HO2 HB2 m0 mC HS2 hb7
    go_wp2_with fail
    refine range_bkl HNL.out (by omega) (g := .tmp 24) (p := 25) (q := 26) (B + 4) w.heap.size rfl z1 (HX.out.keep HI7.out.bel) (fun a ha hne => rd_ltT HX.out hne a ha) HI7.out.bel.size (fun pre W' => NwI w B C (i : Nat) am W') (fun c pre W' => c = .ret ∧ (∃ b, Own W' (B + 3) 4 1 (fun _ => .bool b)) ∧ Below w.heap.size w W') ?hI ?hIx ?h0 (fun x a' W' => NwA B (blL ls x) a' W') ?hAx ?assign ?body ?done ?stop
    case hI => exact fun pre W W' h hn => h.nc hn (by have := HS7.out; omega)
    case hIx => exact fun c pre W W' h hn => ⟨h.1, h.2.1.elim (fun b hb => ⟨b, hb.nc hn⟩), below_nc h.2.2 (Nat.le_refl _) hn (by have := HS7.out; omega)⟩
    case h0 => exact HI7.out
    case hAx =>
      rintro x a' W W' ⟨Y, u0, u1, u2, u7, u9, u10, u11, u12, u13, u14, u15, u16, u17, u18, u19, u20, u21, u22, u23, u24, u25, u26, u27, u28, u29, u30, u31, u32, u33, u34, u35, u36, u37, u38, u39, u40, u41, u42, u43, u44, rfl, HOY, hgY⟩ hn
      exact ⟨Y, _, _, _, _, _, _, _, _, _, _, _, _, _, _, _, _, _, _, _, _, _, _, _, _, _, _, _, _, _, _, _, _, _, _, _, _, _, _, _, _, rfl, HOY.nc hn, hgY⟩
    case assign =>
      intro l pre x W1 K hi hK
      have HI := Lib.hid hi
      have HKK := Lib.hid hK
      clear hi hK
      unfold blV lseV
      gi_wp2
      refine HKK.out _ _ (keepsFrom_alloc _ _ _) ⟨(Below.refl _ W1).alloc HI.out.bel.size _, Below.heap_alloc _ _ _ ?_⟩ ⟨?_, ?_, ?_, HI.out.ob.alloc _, HI.out.bel.alloc HI.out.bel.size _, by have := HI.out.sz; simp; omega⟩ ?_
      · have := HI.out.sz; omega
      · exact (Below.cell ((Below.refl _ W1).alloc (Nat.le_refl _) _) (zb HI.out.b0)).trans HI.out.b0
      · exact (Below.cell ((Below.refl _ W1).alloc (Nat.le_refl _) _) (zb HI.out.b1)).trans HI.out.b1
      · exact (Below.cell ((Below.refl _ W1).alloc (Nat.le_refl _) _) (zb HI.out.b2)).trans HI.out.b2
      · exact ⟨_, _, _, _, _, _, _, _, _, _, _, _, _, _, _, _, _, _, _, _, _, _, _, _, _, _, _, _, _, _, _, _, _, _, _, _, _, _, _, _, _, rfl, Own.lse _ _, HI.out.sz⟩
    case body =>
      rintro l pre x a' W2 hI ⟨Y, u0, u1, u2, u7, u9, u10, u11, u12, u13, u14, u15, u16, u17, u18, u19, u20, u21, u22, u23, u24, u25, u26, u27, u28, u29, u30, u31, u32, u33, u34, u35, u36, u37, u38, u39, u40, u41, u42, u43, u44, rfl, HOY, hgY⟩ hlen
      obtain ⟨x1, hx1⟩ : ∃ v, v = (blL ls x).chg := ⟨_, rfl⟩
      obtain ⟨x2, hx2⟩ : ∃ v, v = (blL ls x).amp := ⟨_, rfl⟩
      obtain ⟨x3, hx3⟩ : ∃ v, v = (blL ls x).frm := ⟨_, rfl⟩
      have y1 : W2.cell? ⟨Y, 1, none⟩ = some (.int .i64 x1) := by rw [hx1]; exact HOY.cell (i := 1) (by omega)
      have y2 : W2.cell? ⟨Y, 2, none⟩ = some (.int .i64 x2) := by rw [hx2]; exact HOY.cell (i := 2) (by omega)
      have y3 : W2.cell? ⟨Y, 3, none⟩ = some (.int .i64 x3) := by rw [hx3]; exact HOY.cell (i := 3) (by omega)
      have b0 := hI.b0
      have b1 := hI.b1
      have b2 := hI.b2
      have k7 := (HC.out.keep hI.bel).k7
      have hYl : Y < W2.heap.size := HOY.lt
      have l0 : B < W2.heap.size := zb b0
      have l1 : B + 1 < W2.heap.size := zb b1
      have l2 : B + 2 < W2.heap.size := zb b2
      have lC : C < W2.heap.size := zb k7
      have HOB := Lib.hid hI.ob
      have HBW := Lib.hid hI.bel
      have HII := Lib.hid hI
      clear hx1 hx2 hx3 HOY hI
      by_cases e1 : x1 = (i : Int)
      · have wtk : IntKind.i64.wrap (tick - 6) = tick - 6 := IntWalk.i64_in _ (by omega)
        by_cases e2 : x2 = am
        · have hbq : (x2 != am) = false := by simp [e2]
          obtain ⟨d, hd⟩ : ∃ d, d = decide (x3 ≤ tick - 6) := ⟨_, rfl⟩
          have HDD : Hid (decide (x3 ≤ tick - 6) = d) := Lib.hid hd.symm
          clear hd
          gi_wp2
          refine region_round_z (S := fun w' => Below W2.heap.size W2 w') [14] (by kernel_rfl) (by kernel_rfl) ((Below.refl _ _).drew) (fun hHeld => ?_)
          refine wpAnyZ_take (i := 0) (v := .pointer (some ⟨Y, 2, none⟩)) [14] rfl (by kernel_rfl) (by kernel_rfl) (by kernel_rfl) (by kernel_rfl) (fun _ _ _ h => absurd h.1 (by simp)) (Or.inl ⟨by rfl, fun w' hSw => ?_⟩) hHeld ?_
          · clear hHeld hSw
            go_simp
          simp only [Act.put, zl0, zl1, zl2, zl3, zl4, zl5]
          refine wpAnyZ_take (i := 1) (v := .int .i64 x2) [14] rfl (by kernel_rfl) (by kernel_rfl) (by kernel_rfl) (by kernel_rfl) (fun _ _ _ h => absurd h.1 (by simp)) (Or.inl ⟨by rfl, fun w' hSw => ?_⟩) hHeld ?_
          · have y2' := (hSw.cell (zb y2)).trans y2
            have ly2 := zb y2'
            dsimp only at ly2
            clear hHeld hSw
            go_simp
          simp only [Act.put, zl0, zl1, zl2, zl3, zl4, zl5]
          refine wpAnyZ_take (i := 2) (v := .int .i64 am) [14] rfl (by kernel_rfl) (by kernel_rfl) (by kernel_rfl) (by kernel_rfl) (fun _ _ _ h => absurd h.1 (by simp)) (Or.inl ⟨by rfl, fun w' hSw => ?_⟩) hHeld ?_
          · have b2' := (hSw.cell (zb b2)).trans b2
            have lb2 := zb b2'
            dsimp only at lb2
            clear hHeld hSw
            go_simp
          simp only [Act.put, zl0, zl1, zl2, zl3, zl4, zl5]
          refine wpAnyZ_take (i := 3) (v := .bool false) [14] rfl (by kernel_rfl) (by kernel_rfl) (by kernel_rfl) (by kernel_rfl) (fun _ _ _ h => absurd h.1 (by simp)) (Or.inl ⟨by rfl, fun w' hSw => ?_⟩) hHeld ?_
          · clear hHeld hSw
            go_simp
            first | done | exact hbq | (simp [hbq])
          simp only [Act.put, zl0, zl1, zl2, zl3, zl4, zl5]
          refine wpAnyZ_take (i := 4) (v := .bool false) [14] rfl (by kernel_rfl) (by kernel_rfl) (by kernel_rfl) (by kernel_rfl) (fun _ _ _ h => absurd h.1 (by simp)) (Or.inl ⟨by rfl, fun w' hSw => ?_⟩) hHeld ?_
          · clear hHeld hSw
            go_simp
          simp only [Act.put, zl0, zl1, zl2, zl3, zl4, zl5]
          refine wpAnyZ_take (i := 5) (v := .pointer (some ⟨Y, 3, none⟩)) [14] rfl (by kernel_rfl) (by kernel_rfl) (by kernel_rfl) (by kernel_rfl) (fun _ _ _ h => absurd h.1 (by simp)) (Or.inl ⟨by rfl, fun w' hSw => ?_⟩) hHeld ?_
          · clear hHeld hSw
            go_simp
          simp only [Act.put, zl0, zl1, zl2, zl3, zl4, zl5]
          refine wpAnyZ_take (i := 6) (v := .int .i64 x3) [14] rfl (by kernel_rfl) (by kernel_rfl) (by kernel_rfl) (by kernel_rfl) (fun _ _ _ h => absurd h.1 (by simp)) (Or.inl ⟨by rfl, fun w' hSw => ?_⟩) hHeld ?_
          · have y3' := (hSw.cell (zb y3)).trans y3
            have ly3 := zb y3'
            dsimp only at ly3
            clear hHeld hSw
            go_simp
          simp only [Act.put, zl0, zl1, zl2, zl3, zl4, zl5]
          refine wpAnyZ_take (i := 7) (v := .pointer (some ⟨C, 0, none⟩)) [14] rfl (by kernel_rfl) (by kernel_rfl) (by kernel_rfl) (by kernel_rfl) (fun _ _ _ h => absurd h.1 (by simp)) (Or.inl ⟨by rfl, fun w' hSw => ?_⟩) hHeld ?_
          · have b0' := (hSw.cell (zb b0)).trans b0
            have lb0 := zb b0'
            dsimp only at lb0
            clear hHeld hSw
            go_simp
          simp only [Act.put, zl0, zl1, zl2, zl3, zl4, zl5]
          refine wpAnyZ_take (i := 8) (v := .pointer (some ⟨C, 0, none⟩)) [14] rfl (by kernel_rfl) (by kernel_rfl) (by kernel_rfl) (by kernel_rfl) (fun _ _ _ h => absurd h.1 (by simp)) (Or.inl ⟨by rfl, fun w' hSw => ?_⟩) hHeld ?_
          · clear hHeld hSw
            go_simp
          simp only [Act.put, zl0, zl1, zl2, zl3, zl4, zl5]
          refine wpAnyZ_take (i := 9) (v := .pointer (some ⟨C, 7, none⟩)) [14] rfl (by kernel_rfl) (by kernel_rfl) (by kernel_rfl) (by kernel_rfl) (fun _ _ _ h => absurd h.1 (by simp)) (Or.inl ⟨by rfl, fun w' hSw => ?_⟩) hHeld ?_
          · clear hHeld hSw
            go_simp
          simp only [Act.put, zl0, zl1, zl2, zl3, zl4, zl5]
          refine wpAnyZ_take (i := 10) (v := .int .i64 tick) [14] rfl (by kernel_rfl) (by kernel_rfl) (by kernel_rfl) (by kernel_rfl) (fun _ _ _ h => absurd h.1 (by simp)) (Or.inl ⟨by rfl, fun w' hSw => ?_⟩) hHeld ?_
          · have k7' := (hSw.cell (zb k7)).trans k7
            have lk7 := zb k7'
            dsimp only at lk7
            clear hHeld hSw
            go_simp
          simp only [Act.put, zl0, zl1, zl2, zl3, zl4, zl5]
          refine wpAnyZ_take (i := 11) (v := .int .i64 (tick - 6)) [14] rfl (by kernel_rfl) (by kernel_rfl) (by kernel_rfl) (by kernel_rfl) (fun _ _ _ h => absurd h.1 (by simp)) (Or.inl ⟨by rfl, fun w' hSw => ?_⟩) hHeld ?_
          · clear hHeld hSw
            go_simp
            first | done | exact wtk | (simp [wtk])
          simp only [Act.put, zl0, zl1, zl2, zl3, zl4, zl5]
          refine wpAnyZ_take (i := 12) (v := .bool d) [14] rfl (by kernel_rfl) (by kernel_rfl) (by kernel_rfl) (by kernel_rfl) (fun _ _ _ h => absurd h.1 (by simp)) (Or.inl ⟨by rfl, fun w' hSw => ?_⟩) hHeld ?_
          · clear hHeld hSw
            go_simp
            first | done | exact HDD.out | (simp [HDD.out])
          simp only [Act.put, zl0, zl1, zl2, zl3, zl4, zl5]
          refine wpAnyZ_take (i := 13) (v := .bool d) [14] rfl (by kernel_rfl) (by kernel_rfl) (by kernel_rfl) (by kernel_rfl) (fun _ _ _ h => absurd h.1 (by simp)) (Or.inl ⟨by rfl, fun w' hSw => ?_⟩) hHeld ?_
          · clear hHeld hSw
            go_simp
          simp only [Act.put, zl0, zl1, zl2, zl3, zl4, zl5]
          have hO3 := HOB.out.keep hHeld HOB.out.lt
          obtain ⟨wq, hwq⟩ : ∃ x, x = W2.drew := ⟨_, rfl⟩
          try rw [← hwq] at hHeld hO3 ⊢
          have c3 := hO3.cell (i := 0) (by omega)
          have f3 := hO3.frozen 0
          have l3 := hO3.lt
          have HH := Lib.hid hHeld
          have HO3 := Lib.hid hO3
          clear hHeld hwq hO3
          refine wpAnyZ_last (i := 14) (by kernel_rfl) rfl (by kernel_rfl) (fun K' hK => ?_)
          go_simp
          refine hK.out _ _ ?_
          clear hK K'
          try simp only [Act.put, zl0, zl1, zl2, zl3, zl4, zl5]
          refine wpAnyZ_done (by kernel_rfl) ⟨rfl, ?_⟩ _
          have HP : Hid (KeepsFrom W7.heap.size W2 (wq.setCell ⟨B + 3, 0, none⟩ (.bool d)) ∧ (∃ b, Own (wq.setCell ⟨B + 3, 0, none⟩ (.bool d)) (B + 3) 4 1 (fun _ => .bool b)) ∧ Below w.heap.size w (wq.setCell ⟨B + 3, 0, none⟩ (.bool d))) := Lib.hid (by
            have hm0 : Mod (fun j => j = B + 3) W2 wq := (Mod.of_below HH.out).mono (fun j hj h => by omega)
            have hm : Mod (fun j => j = B + 3) W2 (wq.setCell ⟨B + 3, 0, none⟩ (.bool d)) := hm0.setCell (p := ⟨B + 3, 0, none⟩) (.inl rfl) _
            have h7 := HS7.out
            exact ⟨keepsFrom_lowQ2 hm _ (fun j e => by omega), ⟨_, HO3.out.set1 _⟩, HBW.out.trans (hm.below (B := w.heap.size) HBW.out.size (fun j _ e => by omega))⟩)
          clear c3 f3 l3
          gi_wp2
          exact ⟨HP.out.1, rfl, HP.out.2⟩

        · have hbq : (x2 != am) = true := by simp [e2]
          gi_wp2
          refine region_round_z (S := fun w' => Below W2.heap.size W2 w') [14] (by kernel_rfl) (by kernel_rfl) ((Below.refl _ _).drew) (fun hHeld => ?_)
          refine wpAnyZ_take (i := 0) (v := .pointer (some ⟨Y, 2, none⟩)) [14] rfl (by kernel_rfl) (by kernel_rfl) (by kernel_rfl) (by kernel_rfl) (fun _ _ _ h => absurd h.1 (by simp)) (Or.inl ⟨by rfl, fun w' hSw => ?_⟩) hHeld ?_
          · clear hHeld hSw
            go_simp
          simp only [Act.put, zl0, zl1, zl2, zl3, zl4, zl5]
          refine wpAnyZ_take (i := 1) (v := .int .i64 x2) [14] rfl (by kernel_rfl) (by kernel_rfl) (by kernel_rfl) (by kernel_rfl) (fun _ _ _ h => absurd h.1 (by simp)) (Or.inl ⟨by rfl, fun w' hSw => ?_⟩) hHeld ?_
          · have y2' := (hSw.cell (zb y2)).trans y2
            have ly2 := zb y2'
            dsimp only at ly2
            clear hHeld hSw
            go_simp
          simp only [Act.put, zl0, zl1, zl2, zl3, zl4, zl5]
          refine wpAnyZ_take (i := 2) (v := .int .i64 am) [14] rfl (by kernel_rfl) (by kernel_rfl) (by kernel_rfl) (by kernel_rfl) (fun _ _ _ h => absurd h.1 (by simp)) (Or.inl ⟨by rfl, fun w' hSw => ?_⟩) hHeld ?_
          · have b2' := (hSw.cell (zb b2)).trans b2
            have lb2 := zb b2'
            dsimp only at lb2
            clear hHeld hSw
            go_simp
          simp only [Act.put, zl0, zl1, zl2, zl3, zl4, zl5]
          refine wpAnyZ_take (i := 3) (v := .bool true) [14] rfl (by kernel_rfl) (by kernel_rfl) (by kernel_rfl) (by kernel_rfl) (fun _ _ _ h => absurd h.1 (by simp)) (Or.inl ⟨by rfl, fun w' hSw => ?_⟩) hHeld ?_
          · clear hHeld hSw
            go_simp
            first | done | exact hbq | (simp [hbq])
          simp only [Act.put, zl0, zl1, zl2, zl3, zl4, zl5]
          refine wpAnyZ_take (i := 4) (v := .bool true) [14] rfl (by kernel_rfl) (by kernel_rfl) (by kernel_rfl) (by kernel_rfl) (fun _ _ _ h => absurd h.1 (by simp)) (Or.inl ⟨by rfl, fun w' hSw => ?_⟩) hHeld ?_
          · clear hHeld hSw
            go_simp
          simp only [Act.put, zl0, zl1, zl2, zl3, zl4, zl5]
          refine wpAnyZ_take (i := 5) (v := undef) [14] rfl (by kernel_rfl) (by kernel_rfl) (by kernel_rfl) (by kernel_rfl) (fun _ _ _ h => absurd h.1 (by simp)) (Or.inr ⟨by rfl, rfl⟩) hHeld ?_
          simp only [Act.put, zl0, zl1, zl2, zl3, zl4, zl5]
          refine wpAnyZ_take (i := 6) (v := undef) [14] rfl (by kernel_rfl) (by kernel_rfl) (by kernel_rfl) (by kernel_rfl) (fun _ _ _ h => absurd h.1 (by simp)) (Or.inr ⟨by rfl, rfl⟩) hHeld ?_
          simp only [Act.put, zl0, zl1, zl2, zl3, zl4, zl5]
          refine wpAnyZ_take (i := 7) (v := undef) [14] rfl (by kernel_rfl) (by kernel_rfl) (by kernel_rfl) (by kernel_rfl) (fun _ _ _ h => absurd h.1 (by simp)) (Or.inr ⟨by rfl, rfl⟩) hHeld ?_
          simp only [Act.put, zl0, zl1, zl2, zl3, zl4, zl5]
          refine wpAnyZ_take (i := 8) (v := undef) [14] rfl (by kernel_rfl) (by kernel_rfl) (by kernel_rfl) (by kernel_rfl) (fun _ _ _ h => absurd h.1 (by simp)) (Or.inr ⟨by rfl, rfl⟩) hHeld ?_
          simp only [Act.put, zl0, zl1, zl2, zl3, zl4, zl5]
          refine wpAnyZ_take (i := 9) (v := undef) [14] rfl (by kernel_rfl) (by kernel_rfl) (by kernel_rfl) (by kernel_rfl) (fun _ _ _ h => absurd h.1 (by simp)) (Or.inr ⟨by rfl, rfl⟩) hHeld ?_
          simp only [Act.put, zl0, zl1, zl2, zl3, zl4, zl5]
          refine wpAnyZ_take (i := 10) (v := undef) [14] rfl (by kernel_rfl) (by kernel_rfl) (by kernel_rfl) (by kernel_rfl) (fun _ _ _ h => absurd h.1 (by simp)) (Or.inr ⟨by rfl, rfl⟩) hHeld ?_
          simp only [Act.put, zl0, zl1, zl2, zl3, zl4, zl5]
          refine wpAnyZ_take (i := 11) (v := undef) [14] rfl (by kernel_rfl) (by kernel_rfl) (by kernel_rfl) (by kernel_rfl) (fun _ _ _ h => absurd h.1 (by simp)) (Or.inr ⟨by rfl, rfl⟩) hHeld ?_
          simp only [Act.put, zl0, zl1, zl2, zl3, zl4, zl5]
          refine wpAnyZ_take (i := 12) (v := undef) [14] rfl (by kernel_rfl) (by kernel_rfl) (by kernel_rfl) (by kernel_rfl) (fun _ _ _ h => absurd h.1 (by simp)) (Or.inr ⟨by rfl, rfl⟩) hHeld ?_
          simp only [Act.put, zl0, zl1, zl2, zl3, zl4, zl5]
          refine wpAnyZ_take (i := 13) (v := .bool true) [14] rfl (by kernel_rfl) (by kernel_rfl) (by kernel_rfl) (by kernel_rfl) (fun _ _ _ h => absurd h.1 (by simp)) (Or.inl ⟨by rfl, fun w' hSw => ?_⟩) hHeld ?_
          · clear hHeld hSw
            go_simp
          simp only [Act.put, zl0, zl1, zl2, zl3, zl4, zl5]
          have hO3 := HOB.out.keep hHeld HOB.out.lt
          obtain ⟨wq, hwq⟩ : ∃ x, x = W2.drew := ⟨_, rfl⟩
          try rw [← hwq] at hHeld hO3 ⊢
          have c3 := hO3.cell (i := 0) (by omega)
          have f3 := hO3.frozen 0
          have l3 := hO3.lt
          have HH := Lib.hid hHeld
          have HO3 := Lib.hid hO3
          clear hHeld hwq hO3
          refine wpAnyZ_last (i := 14) (by kernel_rfl) rfl (by kernel_rfl) (fun K' hK => ?_)
          go_simp
          refine hK.out _ _ ?_
          clear hK K'
          try simp only [Act.put, zl0, zl1, zl2, zl3, zl4, zl5]
          refine wpAnyZ_done (by kernel_rfl) ⟨rfl, ?_⟩ _
          have HP : Hid (KeepsFrom W7.heap.size W2 (wq.setCell ⟨B + 3, 0, none⟩ (.bool true)) ∧ (∃ b, Own (wq.setCell ⟨B + 3, 0, none⟩ (.bool true)) (B + 3) 4 1 (fun _ => .bool b)) ∧ Below w.heap.size w (wq.setCell ⟨B + 3, 0, none⟩ (.bool true))) := Lib.hid (by
            have hm0 : Mod (fun j => j = B + 3) W2 wq := (Mod.of_below HH.out).mono (fun j hj h => by omega)
            have hm : Mod (fun j => j = B + 3) W2 (wq.setCell ⟨B + 3, 0, none⟩ (.bool true)) := hm0.setCell (p := ⟨B + 3, 0, none⟩) (.inl rfl) _
            have h7 := HS7.out
            exact ⟨keepsFrom_lowQ2 hm _ (fun j e => by omega), ⟨_, HO3.out.set1 _⟩, HBW.out.trans (hm.below (B := w.heap.size) HBW.out.size (fun j _ e => by omega))⟩)
          clear c3 f3 l3
          gi_wp2
          exact ⟨HP.out.1, rfl, HP.out.2⟩

      · have HP : Hid (KeepsFrom W7.heap.size W2 W2 ∧ KpW w.heap.size (B + 4) W2 W2 ∧ NwI w B C (i : Nat) am W2) := Lib.hid ⟨KeepsFrom.refl _ _, ⟨Below.refl _ _, rfl⟩, HII.out⟩
        clear b0 b2 k7 y2 y3 HOB HBW HII
        gi_wp2
        exact HP.out
    case done =>
      intro D ys W1 hD hS hi hdf
      have hq := hi.ob.cell (i := 0) (by omega)
      have qf := hi.ob.frozen 0
      have hl := hi.ob.lt
      have hset2 : Own (W1.setCell ⟨B + 3, 0, none⟩ (.bool true)) (B + 3) 4 1 (fun _ => .bool true) := hi.ob.set1 _
      have HO := Lib.hid hset2
      have h7 := HS7.out
      have hm1 : Mod (fun j => j = B + 3) W1 (W1.setCell ⟨B + 3, 0, none⟩ (.bool true)) := (Mod.refl (fun j => j = B + 3) W1).setCell (p := ⟨B + 3, 0, none⟩) (.inl rfl) _
      have HB : Hid (Below w.heap.size w (W1.setCell ⟨B + 3, 0, none⟩ (.bool true))) := Lib.hid (hi.bel.trans (hm1.below hi.bel.size (fun j _ h => by omega)))
      have hdl := (Array.getElem?_eq_some_iff.1 hdf).1
      have hmk : Marks (B + 5) (W1.setCell ⟨B + 3, 0, none⟩ (.bool true)) [{ target := .collected D, args := #[] }] := ⟨[D], rfl, by simp, fun D' hD' => by
        have e : D' = D := by simpa using hD'
        subst e
        exact ⟨by omega, Nat.lt_of_lt_of_le hdl hm1.size, (hm1.block D' hdl (by omega)).trans hdf⟩⟩
      have HMK := Lib.hid hmk
      clear hmk hdf hset2 hm1 hi hdl h7
      go_wp2_with fail
      refine leaves_marks (B := B + 5) _ _ HMK.out (fun W3 hT => ?_)
      refine ⟨_, results_c1 (a := 6) (ty := 4) (b := B + 3) (by kernel_rfl) rfl (load_bool (hT.own HO.out)), ⟨_, rfl⟩, HB.out.trans (taken_below1 hT (by have := HS7.out; omega))⟩
    case stop =>
      rintro D c pre W1 hD ⟨rfl, ⟨b, hb⟩, hbl⟩ hdf
      have HO := Lib.hid hb
      have HB := Lib.hid hbl
      have h7 := HS7.out
      have hdl := (Array.getElem?_eq_some_iff.1 hdf).1
      have hmk : Marks (B + 5) W1 [{ target := .collected D, args := #[] }] := ⟨[D], rfl, by simp, fun D' hD' => by
        have e : D' = D := by simpa using hD'
        subst e
        exact ⟨by omega, hdl, hdf⟩⟩
      have HMK := Lib.hid hmk
      clear hb hbl hmk hdf h7 hdl
      refine wpIn_wide.2 ?_
      go_wp2_with fail
      refine leaves_marks (B := B + 5) _ _ HMK.out (fun W3 hT => ?_)
      refine ⟨_, results_c1 (a := 6) (ty := 4) (b := B + 3) (by kernel_rfl) rfl (load_bool (hT.own HO.out)), ⟨_, rfl⟩, HB.out.trans (taken_below1 hT (by have := HS7.out; omega))⟩
end Go.Proofs.YtkbbapefgifagaaGreatDoor
