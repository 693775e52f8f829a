/-
Several texts in one: PsX, PsY, PsZ, PsT.
-/
import Derived.Test.YtoekpdnpncgeeaaGreatGPsI
import Derived.Test.YtoekpdnpncgeeaaGreatCPsU
import Derived.Test.YtoekpdnpncgeeaaGreatGLex
import Derived.KernelRfl
/-
The parser: an article.
-/
namespace Go.Proofs.YtoekpdnpncgeeaaGreat
open Go.RowKit
set_option linter.unusedVariables false
set_option linter.unusedSimpArgs false
theorem artP_some {toks : List Tok} {p q : Nat} {x : Nd Lf} (h : artP toks p = some (x, q)) : ∃ t vs q2 u, toks[p]? = some t ∧ t.kind = 1 ∧ inD artL t.text = true ∧ vs = valsP nwD toks (toks.length - (p + 1)) (p + 1) ∧ q2 = p + 1 + vs.length ∧ toks[q2]? = some u ∧ u.kind = 3 ∧ u.text.toList = [59] ∧ x = attrN 4 t vs ∧ q = q2 + 1 := by
  unfold artP at h
  cases ht : toks[p]? with
  | none => rw [ht] at h; cases h
  | some t =>
    rw [ht] at h
    simp only at h
    by_cases hc : (t.kind == 1 && inD artL t.text && punP toks [59] (p + 1 + (valsP nwD toks (toks.length - (p + 1)) (p + 1)).length)) = true
    · rw [if_pos hc] at h
      simp only [Bool.and_eq_true, beq_iff_eq] at hc
      obtain ⟨u, hu, hk, hx⟩ := punP_some hc.2
      injection h with h
      injection h with h1 h2
      exact ⟨t, _, _, u, rfl, hc.1.1, hc.1.2, rfl, rfl, hu, hk, hx, h1.symm, h2.symm⟩
    · rw [if_neg hc] at h; cases h
theorem cf_art (args : Array Value) (W : World) : (callFunc 121 args).run Tryz.prog W = .ok (.enter 121 args) W := by go_simp
set_option maxRecDepth 100000 in
theorem paNw_any (s : ByteArray) (w : World) : Calls Tryz.prog 135 #[.string s] w fun e w' => e = .returned (.bool (nwD s)) ∧ w' = w := by
  obtain ⟨a, ha⟩ : ∃ a, a = nkD s := ⟨_, rfl⟩
  obtain ⟨b, hb⟩ : ∃ b, b = inD wordL s := ⟨_, rfl⟩
  have HR : Hid ((a || b) = nwD s) := Lib.hid (by rw [ha, hb]; rfl)
  have HA : Hid (∀ W, Calls Tryz.prog 93 #[.string s] W fun e w' => e = .returned (.bool a) ∧ w' = W) := Lib.hid (fun W => (paNotKey_any s W).mono (fun e w' h => ⟨by rw [h.1, inD_eq, ha]; rfl, h.2⟩))
  have HB : Hid (∀ W, Calls Tryz.prog 133 #[.string s] W fun e w' => e = .returned (.bool b) ∧ w' = W) := Lib.hid (fun W => (paIsWord_any s W).mono (fun e w' h => ⟨by rw [h.1, inD_eq, hb], h.2⟩))
  clear ha hb
  go_enter Tryz.func135, Tryz.ntmps135
  go_wp2_with fail
  refine (HA.out w).mono ?_
  rintro e w1 ⟨rfl, rfl⟩
  cases a
  · go_wp2_with fail
    refine (HB.out w1).mono ?_
    rintro e w2 ⟨rfl, rfl⟩
    go_wp2_with fail
    go_ret
    exact ⟨ret_bool (by rw [← HR.out]; rfl), rfl⟩
  · go_wp2_with fail
    go_ret
    exact ⟨ret_bool (by rw [← HR.out]; rfl), rfl⟩
set_option maxRecDepth 100000 in
set_option maxHeartbeats 8000000 in
theorem paArticle1_ok (R X : Nat) (aT : Option Addr) (nT cT : Nat) (toks : List Tok) (len p : Nat) (w : World) (HM : Hid (PaM w R aT nT cT toks len p)) (hp : p ≤ toks.length) (hX : w.cell? ⟨X, 0, none⟩ = some (.pointer (some ⟨R, 0, none⟩))) :
    Calls Tryz.prog 134 #[.pointer (some ⟨X, 0, none⟩)] w (KidPost okLf w R aT nT cT toks len (p + (valsP nwD toks (toks.length - p) p).length) ((valsP nwD toks (toks.length - p) p).map lfOf)) := by
  have hXl : X < w.heap.size := World.block_lt_of_cell? _ _ hX
  have HC := Lib.hid (paValues_ok nwD 135 R aT nT cT toks len p w HM hp (fun args W => by go_simp) (Lib.hid (fun s W => paNw_any s W)))
  go_enter Tryz.func134, Tryz.ntmps134
  go_wp2_with fail
  refine HC.out.mono ?_
  rintro e w1 ⟨a, n, c, hs, rfl, h⟩
  have HH := Lib.hid h
  clear h
  go_wp2_with fail
  go_ret
  exact ⟨a, n, c, hs, rfl, HH.out⟩
theorem cf_article1 (args : Array Value) (W : World) : (callFunc 134 args).run Tryz.prog W = .ok (.enter 134 args) W := by go_simp
theorem cf_article (args : Array Value) (W : World) : (callFunc 119 args).run Tryz.prog W = .ok (.enter 119 args) W := by go_simp
set_option maxRecDepth 100000 in
set_option maxHeartbeats 8000000 in
theorem paArticle_ok (R : Nat) (aT : Option Addr) (nT cT : Nat) (toks : List Tok) (len p q : Nat) (x : Nd Lf) (w : World) (HM : Hid (PaM w R aT nT cT toks len p)) (hit : artP toks p = some (x, q)) :
    Calls Tryz.prog 119 #[.pointer (some ⟨R, 0, none⟩)] w fun e w' => ∃ h : NH, e = .returned (nhV h) ∧ okNd okLf w' w.heap.size w'.heap.size h x ∧ PaM w' R aT nT cT toks len q ∧ Mod (fun j => j = R) w w' := by
  obtain ⟨t, vs, q2, u, ht, hkt, har, hvs, hq2, hu, hku, hux, hx, hq⟩ := artP_some hit
  have hp1 : p + 1 ≤ toks.length := by have := (List.getElem?_eq_some_iff.1 ht).1; omega
  have HLN : Hid (toks.length = nT ∧ nT ≤ 2000) := Lib.hid ⟨HM.out.ln.1, HM.out.ln.2.1⟩
  have HVL : Hid (vs.length ≤ 2000) := Lib.hid (by have h := valsP_len nwD toks (toks.length - (p + 1)) (p + 1) hp1; rw [← hvs] at h; have := HLN.out; omega)
  have HVS : Hid (valsP nwD toks (toks.length - (p + 1)) (p + 1) = vs) := Lib.hid hvs.symm
  have HQ2 : Hid (p + 1 + vs.length = q2) := Lib.hid hq2.symm
  have HAR := Lib.hid har
  have HTt := Lib.hid ht
  have HTu := Lib.hid hu
  have HKt := Lib.hid hkt
  have HKu : Hid (u.kind = 3 ∧ u.text.toList = [59]) := Lib.hid ⟨hku, hux⟩
  have HP1 := Lib.hid hp1
  subst hx hq
  clear ht hkt har hvs hq2 hu hku hux hp1 hit
  obtain ⟨X, hX⟩ : ∃ X, X = w.heap.size := ⟨_, rfl⟩
  obtain ⟨w0, hw0⟩ : ∃ W, W = (w.alloc (.cells #[.pointer (some ⟨R, 0, none⟩)] 85)).alloc (.cells #[.int .i64 0, .string ⟨#[]⟩, .int .i64 0, .int .i64 0, .slice none 0 0] 56) := ⟨_, rfl⟩
  have hb0 : Below w.heap.size w w0 := by rw [hw0]; exact ((Below.refl _ _).alloc (Nat.le_refl _) _).alloc (by simp) _
  have HX0 : Hid (Own w0 X 85 1 (fun _ => .pointer (some ⟨R, 0, none⟩))) := Lib.hid (by rw [hw0, hX]; exact (Own.one _ _ _).alloc _)
  have HN0 : Hid (Own w0 (X + 1) 56 5 (nodeF 0 ⟨#[]⟩ 0 0 (.slice none 0 0))) := Lib.hid (by rw [hw0]; exact nodeF_new _ 0 ⟨#[]⟩ 0 0 _ _ (by simp [hX]))
  have HXR : Hid (R < X ∧ X + 1 < w0.heap.size ∧ w.heap.size = X) := Lib.hid ⟨by rw [hX]; exact HM.out.ow.lt, HN0.out.lt, hX.symm⟩
  have HM := Lib.hid (HM.out.keep hb0)
  have HMw : Hid (Mod (fun j => j = R) w w0) := Lib.hid (modB hb0)
  have x0 : w0.cell? ⟨X, 0, none⟩ = some (.pointer (some ⟨R, 0, none⟩)) := HX0.out.cell (i := 0) (by omega)
  have hXl : X < w0.heap.size := HX0.out.lt
  have HW0 := Lib.hid hw0
  have HX := Lib.hid hX
  clear hb0 hw0 hX
  go_enter Tryz.func119, Tryz.ntmps119
  go_upto_region 1 with (fail)
  try simp only [World.size_alloc]
  rw [← HW0.out, ← HX.out]
  clear HW0
  go_cut [3] (fun v3 wx => ∃ Z, v3 = .pointer (some ⟨Z, 0, none⟩) ∧ Hid (Own wx Z 90 4 (tokF t)) ∧ Hid (PaM wx R aT nT cT toks len (p + 1)) ∧ Hid (Mod (fun j => j = R) w0 wx) ∧ Hid (w0.heap.size ≤ Z))
  case first =>
    refine region_z (S := fun w' => w'.cell? ⟨X, 0, none⟩ = some (.pointer (some ⟨R, 0, none⟩))) [] (by kernel_rfl) x0 (fun hHeld => ?_)
    obtain ⟨wd, hwd⟩ : ∃ wd, wd = w0.drew := ⟨_, rfl⟩
    rw [← hwd] at hHeld ⊢
    have HM : Hid (PaM wd R aT nT cT toks len p) := Lib.hid (by rw [hwd]; exact ⟨HM.out.ow, HM.out.tk, HM.out.ln, HM.out.ne⟩)
    have HMo : Hid (Mod (fun j => j = R) w0 wd) := Lib.hid (by rw [hwd]; exact (Mod.refl _ w0).drew)
    clear hwd
    refine wpAnyZ_take (i := 0) (v := .pointer (some ⟨R, 0, none⟩)) [2, 4] rfl (by kernel_rfl) (by kernel_rfl) (by kernel_rfl) (by kernel_rfl) (fun _ _ _ h => h) (Or.inl ⟨by kernel_rfl, fun w' hSw => ?_⟩) hHeld ?_
    · have s0 := hSw
      clear hHeld hSw
      go_simp
    simp only [Act.put, List.getElem_toArray, List.getElem_cons_zero, List.getElem_cons_succ, List.setIfInBounds_toArray, List.set_cons_zero, List.set_cons_succ]
    refine wpAnyZ_two (i := 1) (k := 3) (by kernel_rfl) rfl rfl (fun K' hK => ?_) (fun K' hK => ?_)
    · go_simp
      refine (paWordF_any (.func (.func 121) #[] #[]) _ 121 rfl).mono ?_
      rintro e v1 ⟨rfl, hw⟩
      have hb : Below wd.heap.size wd v1 := by rw [hw]; exact (Below.refl _ _).alloc (Nat.le_refl _) _
      obtain ⟨B1, hB⟩ : ∃ B, B = wd.heap.size := ⟨_, rfl⟩
      have HCB1 : Hid (v1.cell? ⟨B1, 0, none⟩ = some (.func (.func 121) #[] #[]) ∧ B1 < v1.heap.size) := Lib.hid (by rw [hw, hB]; exact ⟨by go_simp, by simp⟩)
      have HM := Lib.hid (HM.out.keep hb)
      have x1 : v1.cell? ⟨X, 0, none⟩ = some (.pointer (some ⟨R, 0, none⟩)) := (hb.cell (p := ⟨X, 0, none⟩) (World.block_lt_of_cell? _ _ hHeld)).trans hHeld
      have HMo := Lib.hid (HMo.out.trans (modB hb))
      try rw [show wd.drew.heap.size = wd.heap.size from rfl]
      rw [← hB]
      clear hw hb hB
      refine hK.out _ _ ?_ (fun hHeld' => ?_)
      · exact x1
      clear x1
      clear hK K' hHeld
      have hHeld := hHeld'
      clear hHeld'
      try simp only [Act.put, List.getElem_toArray, List.getElem_cons_zero, List.getElem_cons_succ, List.setIfInBounds_toArray, List.set_cons_zero, List.set_cons_succ]
      refine wpAnyZ_two (i := 2) (k := 3) (by kernel_rfl) rfl rfl (fun K' hK => ?_) (fun K' hK => ?_)
      · go_simp
        refine (paTake_any R aT nT cT toks len p 112 (.pointer (some ⟨B1, 0, none⟩)) t v1 HM HTt.out (by rw [HKt.out]; omega) cf_word1 (Lib.hid (fun W hbW => by
          refine paWordF1_ok t B1 121 true W HKt.out (Nat.lt_of_lt_of_le HCB1.out.2 hbW.size) ((hbW.cell (p := ⟨B1, 0, none⟩) HCB1.out.2).trans HCB1.out.1) cf_art (Lib.hid (fun W => ?_))
          exact (paArt_any t.text W).mono (fun e w' h => ⟨by rw [h.1, inD_eq]; exact congrArg (fun b => Ending.returned (Value.bool b)) HAR.out, by rw [h.2]; exact Below.refl _ _⟩)))).mono ?_
        rintro e v2 ⟨rfl, hM, hmo⟩
        have HM := Lib.hid hM
        have x1 : v2.cell? ⟨X, 0, none⟩ = some (.pointer (some ⟨R, 0, none⟩)) := (hmo.cell (p := ⟨X, 0, none⟩) (World.block_lt_of_cell? _ _ hHeld) (by show X ≠ R; have := HXR.out; omega)).trans hHeld
        have HMo := Lib.hid (HMo.out.trans hmo)
        refine hK.out _ _ ?_ (fun hHeld' => ?_)
        · exact x1
        clear x1 hM hmo
        clear hK K' hHeld
        have hHeld := hHeld'
        clear hHeld'
        try simp only [Act.put, List.getElem_toArray, List.getElem_cons_zero, List.getElem_cons_succ, List.setIfInBounds_toArray, List.set_cons_zero, List.set_cons_succ]
        refine wpAnyZ_one (i := 3) (by kernel_rfl) rfl (fun K' hK => ?_)
        obtain ⟨v3, hw⟩ : ∃ W, W = v2.alloc (.cells #[.int .i64 0, .string ⟨#[]⟩, .int .i64 0, .int .i64 0] 90) := ⟨_, rfl⟩
        go_simp
        rw [← hw]
        have hb : Below v2.heap.size v2 v3 := by rw [hw]; exact (Below.refl _ _).alloc (Nat.le_refl _) _
        obtain ⟨Z, hZ⟩ : ∃ Z, Z = v2.heap.size := ⟨_, rfl⟩
        have HO : Hid (Own v3 Z 90 4 (tokF ⟨0, ⟨#[]⟩, 0, 0⟩)) := Lib.hid (by rw [hw, hZ]; exact own_tok _ 0 0 0 ⟨#[]⟩ _ rfl)
        have HZ : Hid (w0.heap.size ≤ Z) := Lib.hid (by rw [hZ]; exact HMo.out.size)
        try rw [show v2.drew.heap.size = v2.heap.size from rfl]
        rw [← hZ]
        have HM := Lib.hid (HM.out.keep hb)
        have x1 : v3.cell? ⟨X, 0, none⟩ = some (.pointer (some ⟨R, 0, none⟩)) := (hb.cell (p := ⟨X, 0, none⟩) (World.block_lt_of_cell? _ _ hHeld)).trans hHeld
        have HMo := Lib.hid (HMo.out.trans (modB hb))

        clear hw hb hZ
        refine hK.out _ _ ?_ (fun hHeld' => ?_)
        · exact x1
        clear x1
        clear hK K' hHeld
        have hHeld := hHeld'
        clear hHeld'
        try simp only [Act.put, List.getElem_toArray, List.getElem_cons_zero, List.getElem_cons_succ, List.setIfInBounds_toArray, List.set_cons_zero, List.set_cons_succ]
        refine wpAnyZ_one (i := 4) (by kernel_rfl) rfl (fun K' hK => ?_)
        have y0 : v3.cell? ⟨Z, 0, none⟩ = some (.int .i64 0) := HO.out.cell (i := 0) (by omega)
        have y1 : v3.cell? ⟨Z, 1, none⟩ = some (.string ⟨#[]⟩) := HO.out.cell (i := 1) (by omega)
        have y2 : v3.cell? ⟨Z, 2, none⟩ = some (.int .i64 0) := HO.out.cell (i := 2) (by omega)
        have y3 : v3.cell? ⟨Z, 3, none⟩ = some (.int .i64 (0 : Nat)) := HO.out.cell (i := 3) (by omega)
        have f0 := HO.out.frozen 0
        have f1 := HO.out.frozen 1
        have f2 := HO.out.frozen 2
        have f3 := HO.out.frozen 3
        have hZl : Z < v3.heap.size := HO.out.lt
        rw [show tokV t = .agg #[.int .i64 t.kind, .string t.text, .int .i64 t.n, .int .i64 (t.pos : Nat)] from rfl]
        go_simp
        obtain ⟨v4, hw⟩ : ∃ W, W = (((v3.setCell ⟨Z, 0, none⟩ (.int .i64 t.kind)).setCell ⟨Z, 1, none⟩ (.string t.text)).setCell ⟨Z, 2, none⟩ (.int .i64 t.n)).setCell ⟨Z, 3, none⟩ (.int .i64 (t.pos : Nat)) := ⟨_, rfl⟩
        have HO : Hid (Own v4 Z 90 4 (tokF t)) := Lib.hid (by rw [hw]; exact HO.out.setTok t.kind t.n t.pos t.text)
        have hmz : Mod (fun j => j = Z) v3 v4 := by rw [hw]; exact ((((show Mod (fun j => j = Z) v3 v3 from Mod.refl _ v3).setCell (p := ⟨Z, 0, none⟩) (.inl rfl) _).setCell (p := ⟨Z, 1, none⟩) (.inl rfl) _).setCell (p := ⟨Z, 2, none⟩) (.inl rfl) _).setCell (p := ⟨Z, 3, none⟩) (.inl rfl) _
        rw [← hw]
        have HM := Lib.hid (HM.out.mod hmz (fun j hj e => by have := HXR.out; have := HZ.out; omega))
        have HMo := Lib.hid (HMo.out.trans2 hmz (fun j hj e => by have := HZ.out; omega))
        have x1 : v4.cell? ⟨X, 0, none⟩ = some (.pointer (some ⟨R, 0, none⟩)) := (hmz.cell (p := ⟨X, 0, none⟩) (World.block_lt_of_cell? _ _ hHeld) (by have := HXR.out; have := HZ.out; show X ≠ Z; omega)).trans hHeld
        clear hw hmz y0 y1 y2 y3 f0 f1 f2 f3 hZl
        refine hK.out _ _ ?_ (fun hHeld' => ?_)
        · exact x1
        clear x1
        clear hK K' hHeld
        have hHeld := hHeld'
        clear hHeld'
        try simp only [Act.put, List.getElem_toArray, List.getElem_cons_zero, List.getElem_cons_succ, List.setIfInBounds_toArray, List.set_cons_zero, List.set_cons_succ]
        refine wpAnyZ_done (by kernel_rfl) ?_ _
        go_wp2_with fail
        go_meet
        exact ⟨Z, rfl, HO, HM, HMo, HZ⟩
      · obtain ⟨v2, hw⟩ : ∃ W, W = v1.alloc (.cells #[.int .i64 0, .string ⟨#[]⟩, .int .i64 0, .int .i64 0] 90) := ⟨_, rfl⟩
        go_simp
        rw [← hw]
        have hb : Below v1.heap.size v1 v2 := by rw [hw]; exact (Below.refl _ _).alloc (Nat.le_refl _) _
        obtain ⟨Z, hZ⟩ : ∃ Z, Z = v1.heap.size := ⟨_, rfl⟩
        have HO : Hid (Own v2 Z 90 4 (tokF ⟨0, ⟨#[]⟩, 0, 0⟩)) := Lib.hid (by rw [hw, hZ]; exact own_tok _ 0 0 0 ⟨#[]⟩ _ rfl)
        have HZ : Hid (w0.heap.size ≤ Z) := Lib.hid (by rw [hZ]; exact HMo.out.size)
        try rw [show v1.drew.heap.size = v1.heap.size from rfl]
        rw [← hZ]
        have HM := Lib.hid (HM.out.keep hb)
        have x1 : v2.cell? ⟨X, 0, none⟩ = some (.pointer (some ⟨R, 0, none⟩)) := (hb.cell (p := ⟨X, 0, none⟩) (World.block_lt_of_cell? _ _ hHeld)).trans hHeld
        have HMo := Lib.hid (HMo.out.trans (modB hb))
        have HCB1 : Hid (v2.cell? ⟨B1, 0, none⟩ = some (.func (.func 121) #[] #[]) ∧ B1 < v2.heap.size) := Lib.hid ⟨(hb.cell (p := ⟨B1, 0, none⟩) HCB1.out.2).trans HCB1.out.1, Nat.lt_of_lt_of_le HCB1.out.2 hb.size⟩
        clear hw hb hZ
        refine hK.out _ _ ?_ (fun hHeld' => ?_)
        · exact x1
        clear x1
        clear hK K' hHeld
        have hHeld := hHeld'
        clear hHeld'
        try simp only [Act.put, List.getElem_toArray, List.getElem_cons_zero, List.getElem_cons_succ, List.setIfInBounds_toArray, List.set_cons_zero, List.set_cons_succ]
        refine wpAnyZ_one (i := 2) (by kernel_rfl) rfl (fun K' hK => ?_)
        go_simp
        refine (paTake_any R aT nT cT toks len p 112 (.pointer (some ⟨B1, 0, none⟩)) t v2 HM HTt.out (by rw [HKt.out]; omega) cf_word1 (Lib.hid (fun W hbW => by
          refine paWordF1_ok t B1 121 true W HKt.out (Nat.lt_of_lt_of_le HCB1.out.2 hbW.size) ((hbW.cell (p := ⟨B1, 0, none⟩) HCB1.out.2).trans HCB1.out.1) cf_art (Lib.hid (fun W => ?_))
          exact (paArt_any t.text W).mono (fun e w' h => ⟨by rw [h.1, inD_eq]; exact congrArg (fun b => Ending.returned (Value.bool b)) HAR.out, by rw [h.2]; exact Below.refl _ _⟩)))).mono ?_
        rintro e v3 ⟨rfl, hM, hmo⟩
        have HM := Lib.hid hM
        have x1 : v3.cell? ⟨X, 0, none⟩ = some (.pointer (some ⟨R, 0, none⟩)) := (hmo.cell (p := ⟨X, 0, none⟩) (World.block_lt_of_cell? _ _ hHeld) (by show X ≠ R; have := HXR.out; omega)).trans hHeld
        have HMo := Lib.hid (HMo.out.trans hmo)
        have HO := Lib.hid (HO.out.mod hmo (by have := HXR.out; have := HZ.out; omega))
        refine hK.out _ _ ?_ (fun hHeld' => ?_)
        · exact x1
        clear x1 hM hmo
        clear hK K' hHeld
        have hHeld := hHeld'
        clear hHeld'
        try simp only [Act.put, List.getElem_toArray, List.getElem_cons_zero, List.getElem_cons_succ, List.setIfInBounds_toArray, List.set_cons_zero, List.set_cons_succ]
        refine wpAnyZ_one (i := 4) (by kernel_rfl) rfl (fun K' hK => ?_)
        have y0 : v3.cell? ⟨Z, 0, none⟩ = some (.int .i64 0) := HO.out.cell (i := 0) (by omega)
        have y1 : v3.cell? ⟨Z, 1, none⟩ = some (.string ⟨#[]⟩) := HO.out.cell (i := 1) (by omega)
        have y2 : v3.cell? ⟨Z, 2, none⟩ = some (.int .i64 0) := HO.out.cell (i := 2) (by omega)
        have y3 : v3.cell? ⟨Z, 3, none⟩ = some (.int .i64 (0 : Nat)) := HO.out.cell (i := 3) (by omega)
        have f0 := HO.out.frozen 0
        have f1 := HO.out.frozen 1
        have f2 := HO.out.frozen 2
        have f3 := HO.out.frozen 3
        have hZl : Z < v3.heap.size := HO.out.lt
        rw [show tokV t = .agg #[.int .i64 t.kind, .string t.text, .int .i64 t.n, .int .i64 (t.pos : Nat)] from rfl]
        go_simp
        obtain ⟨v4, hw⟩ : ∃ W, W = (((v3.setCell ⟨Z, 0, none⟩ (.int .i64 t.kind)).setCell ⟨Z, 1, none⟩ (.string t.text)).setCell ⟨Z, 2, none⟩ (.int .i64 t.n)).setCell ⟨Z, 3, none⟩ (.int .i64 (t.pos : Nat)) := ⟨_, rfl⟩
        have HO : Hid (Own v4 Z 90 4 (tokF t)) := Lib.hid (by rw [hw]; exact HO.out.setTok t.kind t.n t.pos t.text)
        have hmz : Mod (fun j => j = Z) v3 v4 := by rw [hw]; exact ((((show Mod (fun j => j = Z) v3 v3 from Mod.refl _ v3).setCell (p := ⟨Z, 0, none⟩) (.inl rfl) _).setCell (p := ⟨Z, 1, none⟩) (.inl rfl) _).setCell (p := ⟨Z, 2, none⟩) (.inl rfl) _).setCell (p := ⟨Z, 3, none⟩) (.inl rfl) _
        rw [← hw]
        have HM := Lib.hid (HM.out.mod hmz (fun j hj e => by have := HXR.out; have := HZ.out; omega))
        have HMo := Lib.hid (HMo.out.trans2 hmz (fun j hj e => by have := HZ.out; omega))
        have x1 : v4.cell? ⟨X, 0, none⟩ = some (.pointer (some ⟨R, 0, none⟩)) := (hmz.cell (p := ⟨X, 0, none⟩) (World.block_lt_of_cell? _ _ hHeld) (by have := HXR.out; have := HZ.out; show X ≠ Z; omega)).trans hHeld
        clear hw hmz y0 y1 y2 y3 f0 f1 f2 f3 hZl
        refine hK.out _ _ ?_ (fun hHeld' => ?_)
        · exact x1
        clear x1
        clear hK K' hHeld
        have hHeld := hHeld'
        clear hHeld'
        try simp only [Act.put, List.getElem_toArray, List.getElem_cons_zero, List.getElem_cons_succ, List.setIfInBounds_toArray, List.set_cons_zero, List.set_cons_succ]
        refine wpAnyZ_done (by kernel_rfl) ?_ _
        go_wp2_with fail
        go_meet
        exact ⟨Z, rfl, HO, HM, HMo, HZ⟩
    · obtain ⟨v1, hw⟩ : ∃ W, W = wd.alloc (.cells #[.int .i64 0, .string ⟨#[]⟩, .int .i64 0, .int .i64 0] 90) := ⟨_, rfl⟩
      go_simp
      rw [← hw]
      have hb : Below wd.heap.size wd v1 := by rw [hw]; exact (Below.refl _ _).alloc (Nat.le_refl _) _
      obtain ⟨Z, hZ⟩ : ∃ Z, Z = wd.heap.size := ⟨_, rfl⟩
      have HO : Hid (Own v1 Z 90 4 (tokF ⟨0, ⟨#[]⟩, 0, 0⟩)) := Lib.hid (by rw [hw, hZ]; exact own_tok _ 0 0 0 ⟨#[]⟩ _ rfl)
      have HZ : Hid (w0.heap.size ≤ Z) := Lib.hid (by rw [hZ]; exact HMo.out.size)
      try rw [show wd.drew.heap.size = wd.heap.size from rfl]
      rw [← hZ]
      have HM := Lib.hid (HM.out.keep hb)
      have x1 : v1.cell? ⟨X, 0, none⟩ = some (.pointer (some ⟨R, 0, none⟩)) := (hb.cell (p := ⟨X, 0, none⟩) (World.block_lt_of_cell? _ _ hHeld)).trans hHeld
      have HMo := Lib.hid (HMo.out.trans (modB hb))

      clear hw hb hZ
      refine hK.out _ _ ?_ (fun hHeld' => ?_)
      · exact x1
      clear x1
      clear hK K' hHeld
      have hHeld := hHeld'
      clear hHeld'
      try simp only [Act.put, List.getElem_toArray, List.getElem_cons_zero, List.getElem_cons_succ, List.setIfInBounds_toArray, List.set_cons_zero, List.set_cons_succ]
      refine wpAnyZ_one (i := 1) (by kernel_rfl) rfl (fun K' hK => ?_)
      go_simp
      refine (paWordF_any (.func (.func 121) #[] #[]) _ 121 rfl).mono ?_
      rintro e v2 ⟨rfl, hw⟩
      have hb : Below v1.heap.size v1 v2 := by rw [hw]; exact (Below.refl _ _).alloc (Nat.le_refl _) _
      obtain ⟨B2, hB⟩ : ∃ B, B = v1.heap.size := ⟨_, rfl⟩
      have HCB2 : Hid (v2.cell? ⟨B2, 0, none⟩ = some (.func (.func 121) #[] #[]) ∧ B2 < v2.heap.size) := Lib.hid (by rw [hw, hB]; exact ⟨by go_simp, by simp⟩)
      have HM := Lib.hid (HM.out.keep hb)
      have x1 : v2.cell? ⟨X, 0, none⟩ = some (.pointer (some ⟨R, 0, none⟩)) := (hb.cell (p := ⟨X, 0, none⟩) (World.block_lt_of_cell? _ _ hHeld)).trans hHeld
      have HMo := Lib.hid (HMo.out.trans (modB hb))
      have HO := Lib.hid (HO.out.keep hb HO.out.lt)
      try rw [show v1.drew.heap.size = v1.heap.size from rfl]
      rw [← hB]
      clear hw hb hB
      refine hK.out _ _ ?_ (fun hHeld' => ?_)
      · exact x1
      clear x1
      clear hK K' hHeld
      have hHeld := hHeld'
      clear hHeld'
      try simp only [Act.put, List.getElem_toArray, List.getElem_cons_zero, List.getElem_cons_succ, List.setIfInBounds_toArray, List.set_cons_zero, List.set_cons_succ]
      refine wpAnyZ_one (i := 2) (by kernel_rfl) rfl (fun K' hK => ?_)
      go_simp
      refine (paTake_any R aT nT cT toks len p 112 (.pointer (some ⟨B2, 0, none⟩)) t v2 HM HTt.out (by rw [HKt.out]; omega) cf_word1 (Lib.hid (fun W hbW => by
        refine paWordF1_ok t B2 121 true W HKt.out (Nat.lt_of_lt_of_le HCB2.out.2 hbW.size) ((hbW.cell (p := ⟨B2, 0, none⟩) HCB2.out.2).trans HCB2.out.1) cf_art (Lib.hid (fun W => ?_))
        exact (paArt_any t.text W).mono (fun e w' h => ⟨by rw [h.1, inD_eq]; exact congrArg (fun b => Ending.returned (Value.bool b)) HAR.out, by rw [h.2]; exact Below.refl _ _⟩)))).mono ?_
      rintro e v3 ⟨rfl, hM, hmo⟩
      have HM := Lib.hid hM
      have x1 : v3.cell? ⟨X, 0, none⟩ = some (.pointer (some ⟨R, 0, none⟩)) := (hmo.cell (p := ⟨X, 0, none⟩) (World.block_lt_of_cell? _ _ hHeld) (by show X ≠ R; have := HXR.out; omega)).trans hHeld
      have HMo := Lib.hid (HMo.out.trans hmo)
      have HO := Lib.hid (HO.out.mod hmo (by have := HXR.out; have := HZ.out; omega))
      refine hK.out _ _ ?_ (fun hHeld' => ?_)
      · exact x1
      clear x1 hM hmo
      clear hK K' hHeld
      have hHeld := hHeld'
      clear hHeld'
      try simp only [Act.put, List.getElem_toArray, List.getElem_cons_zero, List.getElem_cons_succ, List.setIfInBounds_toArray, List.set_cons_zero, List.set_cons_succ]
      refine wpAnyZ_one (i := 4) (by kernel_rfl) rfl (fun K' hK => ?_)
      have y0 : v3.cell? ⟨Z, 0, none⟩ = some (.int .i64 0) := HO.out.cell (i := 0) (by omega)
      have y1 : v3.cell? ⟨Z, 1, none⟩ = some (.string ⟨#[]⟩) := HO.out.cell (i := 1) (by omega)
      have y2 : v3.cell? ⟨Z, 2, none⟩ = some (.int .i64 0) := HO.out.cell (i := 2) (by omega)
      have y3 : v3.cell? ⟨Z, 3, none⟩ = some (.int .i64 (0 : Nat)) := HO.out.cell (i := 3) (by omega)
      have f0 := HO.out.frozen 0
      have f1 := HO.out.frozen 1
      have f2 := HO.out.frozen 2
      have f3 := HO.out.frozen 3
      have hZl : Z < v3.heap.size := HO.out.lt
      rw [show tokV t = .agg #[.int .i64 t.kind, .string t.text, .int .i64 t.n, .int .i64 (t.pos : Nat)] from rfl]
      go_simp
      obtain ⟨v4, hw⟩ : ∃ W, W = (((v3.setCell ⟨Z, 0, none⟩ (.int .i64 t.kind)).setCell ⟨Z, 1, none⟩ (.string t.text)).setCell ⟨Z, 2, none⟩ (.int .i64 t.n)).setCell ⟨Z, 3, none⟩ (.int .i64 (t.pos : Nat)) := ⟨_, rfl⟩
      have HO : Hid (Own v4 Z 90 4 (tokF t)) := Lib.hid (by rw [hw]; exact HO.out.setTok t.kind t.n t.pos t.text)
      have hmz : Mod (fun j => j = Z) v3 v4 := by rw [hw]; exact ((((show Mod (fun j => j = Z) v3 v3 from Mod.refl _ v3).setCell (p := ⟨Z, 0, none⟩) (.inl rfl) _).setCell (p := ⟨Z, 1, none⟩) (.inl rfl) _).setCell (p := ⟨Z, 2, none⟩) (.inl rfl) _).setCell (p := ⟨Z, 3, none⟩) (.inl rfl) _
      rw [← hw]
      have HM := Lib.hid (HM.out.mod hmz (fun j hj e => by have := HXR.out; have := HZ.out; omega))
      have HMo := Lib.hid (HMo.out.trans2 hmz (fun j hj e => by have := HZ.out; omega))
      have x1 : v4.cell? ⟨X, 0, none⟩ = some (.pointer (some ⟨R, 0, none⟩)) := (hmz.cell (p := ⟨X, 0, none⟩) (World.block_lt_of_cell? _ _ hHeld) (by have := HXR.out; have := HZ.out; show X ≠ Z; omega)).trans hHeld
      clear hw hmz y0 y1 y2 y3 f0 f1 f2 f3 hZl
      refine hK.out _ _ ?_ (fun hHeld' => ?_)
      · exact x1
      clear x1
      clear hK K' hHeld
      have hHeld := hHeld'
      clear hHeld'
      try simp only [Act.put, List.getElem_toArray, List.getElem_cons_zero, List.getElem_cons_succ, List.setIfInBounds_toArray, List.set_cons_zero, List.set_cons_succ]
      refine wpAnyZ_done (by kernel_rfl) ?_ _
      go_wp2_with fail
      go_meet
      exact ⟨Z, rfl, HO, HM, HMo, HZ⟩
  case rest =>
    clear HM x0 hXl
    obtain ⟨Z, rfl, HO, HM, HMo0, HZ⟩ := hcut
    have HX2 := Lib.hid (HX0.out.mod HMo0.out (by have := HXR.out; omega))
    have HN2 := Lib.hid (HN0.out.mod HMo0.out (by have := HXR.out; omega))
    obtain ⟨tk, tx, tn, tp⟩ := t
    have y0 : wc.cell? ⟨Z, 0, none⟩ = some (.int .i64 tk) := HO.out.cell (i := 0) (by omega)
    have y1 : wc.cell? ⟨Z, 1, none⟩ = some (.string tx) := HO.out.cell (i := 1) (by omega)
    have y2 : wc.cell? ⟨Z, 2, none⟩ = some (.int .i64 tn) := HO.out.cell (i := 2) (by omega)
    have y3 : wc.cell? ⟨Z, 3, none⟩ = some (.int .i64 (tp : Nat)) := HO.out.cell (i := 3) (by omega)
    have hZl : Z < wc.heap.size := HO.out.lt
    go_wp2_with fail
    obtain ⟨w8, hw8⟩ : ∃ W, W = wc.alloc (.cells #[.func (.func 134) #[] #[.pointer (some ⟨X, 0, none⟩)]] 91) := ⟨_, rfl⟩
    rw [← hw8]
    have hb8 : Below wc.heap.size wc w8 := by rw [hw8]; exact (Below.refl _ _).alloc (Nat.le_refl _) _
    obtain ⟨F0, hF0⟩ : ∃ F, F = wc.heap.size := ⟨_, rfl⟩
    have HF8 : Hid (Own w8 F0 91 1 (fun _ => .func (.func 134) #[] #[.pointer (some ⟨X, 0, none⟩)])) := Lib.hid (by rw [hw8, hF0]; exact Own.one _ _ _)
    rw [← hF0]
    have HM8 := Lib.hid (HM.out.keep hb8)
    have HX8 := Lib.hid (HX2.out.keep hb8 HX2.out.lt)
    have HN8 := Lib.hid (HN2.out.keep hb8 HN2.out.lt)
    have HMo8 : Hid (Mod (fun j => j = R) w0 w8) := Lib.hid (HMo0.out.trans (modB hb8))
    have HFX : Hid (X + 1 < F0 ∧ F0 < w8.heap.size) := Lib.hid ⟨by rw [hF0]; exact HN2.out.lt, HF8.out.lt⟩
    clear hw8 hb8 hF0 HM HX2 HN2 HO HMo0 y0 y1 y2 y3 hZl
    refine (paNode_one okLf_firm 134 #[] #[.pointer (some ⟨X, 0, none⟩)] R F0 aT nT cT toks len (p + 1) q2 ⟨tk, tx, tn, tp⟩ 4 tx 0 (vs.map lfOf) w8 HM8 (HF8.out.cell (i := 0) (by omega)) (by have := HFX.out; have := HXR.out; omega) (by rw [List.length_map]; have := HVL.out; omega) cf_article1 (Lib.hid (fun W hmW hPW => by
      have h := paArticle1_ok R X aT nT cT toks len (p + 1) W (Lib.hid hPW) HP1.out ((hmW.cell (p := ⟨X, 0, none⟩) HX8.out.lt (by have := HXR.out; show X ≠ R; omega)).trans (HX8.out.cell (i := 0) (by omega)))
      rw [HVS.out, HQ2.out] at h
      exact h))).mono ?_
    rintro e w9 ⟨h, rfl, hok, hM9, hmo9⟩
    have HMo9 : Hid (Mod (fun j => j = R) w0 w9) := Lib.hid (HMo8.out.trans hmo9)
    have HX9 := Lib.hid (HX8.out.mod hmo9 (by have := HXR.out; omega))
    have HN9 := Lib.hid (HN8.out.mod hmo9 (by have := HXR.out; omega))
    obtain ⟨hkk, hna, hnn, hpo, ha, hln, hc⟩ := h
    have HM9 := Lib.hid hM9
    have HS9 : Hid (w8.heap.size ≤ w9.heap.size) := Lib.hid hmo9.size
    have HOK := Lib.hid hok
    clear hM9 hmo9 hok HM8 HX8 HN8 HMo8
    rw [show nhV ⟨hkk, hna, hnn, hpo, ha, hln, hc⟩ = .agg #[.int .i64 hkk, .string hna, .int .i64 hnn, .int .i64 (hpo : Nat), .slice ha hln hc] from rfl]
    go_upto_region 3 with (fail)
    obtain ⟨w10, hw10⟩ : ∃ W, W = w9.alloc (.cells #[.int .i64 hkk, .string hna, .int .i64 hnn, .int .i64 (hpo : Nat), .slice ha hln hc] 56) := ⟨_, rfl⟩
    rw [← hw10]
    have hb10 : Below w9.heap.size w9 w10 := by rw [hw10]; exact (Below.refl _ _).alloc (Nat.le_refl _) _
    obtain ⟨N, hN⟩ : ∃ N, N = w9.heap.size := ⟨_, rfl⟩
    have HO10 : Hid (Own w10 N 56 5 (nodeF hkk hna hnn hpo (.slice ha hln hc))) := Lib.hid (by rw [hw10]; exact nodeF_new _ hkk hna hnn hpo _ _ hN.symm)
    rw [← hN]
    have HNX : Hid (X + 1 < N ∧ w9.heap.size = N) := Lib.hid ⟨by rw [hN]; exact HN9.out.lt, hN.symm⟩
    have HM10 := Lib.hid (HM9.out.keep hb10)
    have HX10 := Lib.hid (HX9.out.keep hb10 HX9.out.lt)
    have HN10 := Lib.hid (HN9.out.keep hb10 HN9.out.lt)
    have HMo10 : Hid (Mod (fun j => j = R) w0 w10) := Lib.hid (HMo9.out.trans (modB hb10))
    have HOK10 := Lib.hid ((okNd_firm okLf_firm).calm HOK.out (Calm.of (show Mod (fun j => j = R) w9 w10 from modB hb10) (fun j h1 h2 e => by have := HFX.out; have := HXR.out; omega)))
    clear hw10 hb10 hN HM9 HX9 HN9 HMo9 HOK
    have x0 : w10.cell? ⟨X, 0, none⟩ = some (.pointer (some ⟨R, 0, none⟩)) := HX10.out.cell (i := 0) (by omega)
    have hXl : X < w10.heap.size := HX10.out.lt
    refine region_z (S := fun w' => w'.cell? ⟨X, 0, none⟩ = some (.pointer (some ⟨R, 0, none⟩))) [] (by kernel_rfl) x0 (fun hHeld => ?_)
    refine wpAnyZ_take (i := 0) (v := .pointer (some ⟨R, 0, none⟩)) [2] rfl (by kernel_rfl) (by kernel_rfl) (by kernel_rfl) (by kernel_rfl) (fun _ _ _ h => h) (Or.inl ⟨by kernel_rfl, fun w' hSw => ?_⟩) hHeld ?_
    · have s0 := hSw
      clear hHeld hSw
      go_simp
    simp only [Act.put, List.getElem_toArray, List.getElem_cons_zero, List.getElem_cons_succ, List.setIfInBounds_toArray, List.set_cons_zero, List.set_cons_succ]
    refine wpAnyZ_one (i := 1) (by kernel_rfl) rfl (fun K' hK => ?_)
    go_simp
    refine (paPunct_any ⟨#[59]⟩ w10.drew).mono ?_
    rintro e u1 ⟨rfl, hu1⟩
    have hb1 : Below w10.heap.size w10 u1 := by rw [hu1]; exact ((below_drew w10).alloc (Nat.le_refl _) _)
    obtain ⟨B, hB⟩ : ∃ B, B = w10.heap.size := ⟨_, rfl⟩
    have hc1 : u1.cell? ⟨B, 0, none⟩ = some (.string ⟨#[59]⟩) := by rw [hu1, hB]; go_simp
    have hl1 : B < u1.heap.size := by rw [hu1, hB]; simp
    have HU1 := Lib.hid (HM10.out.keep hb1)
    have x1 : u1.cell? ⟨X, 0, none⟩ = some (.pointer (some ⟨R, 0, none⟩)) := (hb1.cell (p := ⟨X, 0, none⟩) hXl).trans x0
    have HV1 : Hid (Mod (fun j => j = R) w10 u1) := Lib.hid (modB hb1)
    try rw [show w10.drew.heap.size = w10.heap.size from rfl]
    rw [← hB]
    clear hu1 hb1 hB
    refine hK.out _ _ ?_ (fun hHeld' => ?_)
    · exact x1
    clear hK K' hHeld
    have hHeld := hHeld'
    clear hHeld'
    try simp only [Act.put, List.getElem_toArray, List.getElem_cons_zero, List.getElem_cons_succ, List.setIfInBounds_toArray, List.set_cons_zero, List.set_cons_succ]
    refine wpAnyZ_one (i := 2) (by kernel_rfl) rfl (fun K' hK => ?_)
    go_simp
    refine (paTake_any R aT nT cT toks len q2 114 (.pointer (some ⟨B, 0, none⟩)) u u1 HU1 HTu.out (by rw [HKu.out.1]; omega) cf_punct1 (Lib.hid (fun W hbW => by
      refine (paPunct1_any u B ⟨#[59]⟩ W (Nat.lt_of_lt_of_le hl1 hbW.size) ((hbW.cell (p := ⟨B, 0, none⟩) hl1).trans hc1)).mono ?_
      rintro e w' ⟨rfl, hb⟩
      refine ⟨?_, hb⟩
      rw [HKu.out.1, HKu.out.2, show (⟨#[59]⟩ : ByteArray).toList = [59] by kernel_rfl]
      rfl))).mono ?_
    rintro e u2 ⟨rfl, hM2, hmo2⟩
    have HU2 := Lib.hid hM2
    have HV2 : Hid (Mod (fun j => j = R) w10 u2) := Lib.hid (HV1.out.trans hmo2)
    have x2 : u2.cell? ⟨X, 0, none⟩ = some (.pointer (some ⟨R, 0, none⟩)) := (hmo2.cell (p := ⟨X, 0, none⟩) (World.block_lt_of_cell? _ _ x1) (by have := HXR.out; show X ≠ R; omega)).trans x1
    clear hM2 hmo2
    refine hK.out _ _ ?_ (fun hHeld' => ?_)
    · exact x2
    clear hK K' hHeld
    have hHeld := hHeld'
    clear hHeld'
    try simp only [Act.put, List.getElem_toArray, List.getElem_cons_zero, List.getElem_cons_succ, List.setIfInBounds_toArray, List.set_cons_zero, List.set_cons_succ]
    refine wpAnyZ_done (by kernel_rfl) ?_ _
    go_step
    go_step
    have HN11 := Lib.hid (HN10.out.mod HV2.out (by have := HXR.out; omega))
    have HO11 := Lib.hid (HO10.out.mod HV2.out (by have := HXR.out; have := HNX.out; omega))
    have HMo11 : Hid (Mod (fun j => j = R) w0 u2) := Lib.hid (HMo10.out.trans HV2.out)
    have HOK11 := Lib.hid ((okNd_firm okLf_firm).calm HOK10.out (Calm.of HV2.out (fun j h1 h2 e => by have := HFX.out; have := HXR.out; omega)))
    have HS11 : Hid (w9.heap.size ≤ u2.heap.size) := Lib.hid (by have h1 := HO11.out.lt; have := HNX.out; omega)
    clear HX10 HN10 HO10 HMo10 HOK10 HM10 x0 hXl HV1 HV2
    try clear x1 x2
    try clear HU1
    try clear hc1 hl1
    try clear hHeld
    have y0 : u2.cell? ⟨N, 0, none⟩ = some (.int .i64 hkk) := HO11.out.cell (i := 0) (by omega)
    have y1 : u2.cell? ⟨N, 1, none⟩ = some (.string hna) := HO11.out.cell (i := 1) (by omega)
    have y2 : u2.cell? ⟨N, 2, none⟩ = some (.int .i64 hnn) := HO11.out.cell (i := 2) (by omega)
    have y3 : u2.cell? ⟨N, 3, none⟩ = some (.int .i64 (hpo : Nat)) := HO11.out.cell (i := 3) (by omega)
    have y4 : u2.cell? ⟨N, 4, none⟩ = some (.slice ha hln hc) := HO11.out.cell (i := 4) (by omega)
    have z0 : u2.cell? ⟨X + 1, 0, none⟩ = some (.int .i64 0) := HN11.out.cell (i := 0) (by omega)
    have z1 : u2.cell? ⟨X + 1, 1, none⟩ = some (.string ⟨#[]⟩) := HN11.out.cell (i := 1) (by omega)
    have z2 : u2.cell? ⟨X + 1, 2, none⟩ = some (.int .i64 0) := HN11.out.cell (i := 2) (by omega)
    have z3 : u2.cell? ⟨X + 1, 3, none⟩ = some (.int .i64 (0 : Nat)) := HN11.out.cell (i := 3) (by omega)
    have z4 : u2.cell? ⟨X + 1, 4, none⟩ = some (.slice none 0 0) := HN11.out.cell (i := 4) (by omega)
    have f0 := HN11.out.frozen 0
    have f1 := HN11.out.frozen 1
    have f2 := HN11.out.frozen 2
    have f3 := HN11.out.frozen 3
    have f4 := HN11.out.frozen 4
    have hNl : N < u2.heap.size := HO11.out.lt
    have hXl : X + 1 < u2.heap.size := HN11.out.lt
    go_wp2_with fail
    have hoX := nodeF_all HN11.out hkk hnn hpo hna (.slice ha hln hc)
    refine bodyPost_ret (results_c1T (a := 2) (ty := 56) (b := X + 1) (by kernel_rfl) rfl (node_load hoX)) rfl ?_
    have hXM : Mod (fun j => j = X + 1) u2 (((((u2.setCell ⟨X + 1, 0, none⟩ (.int .i64 hkk)).setCell ⟨X + 1, 1, none⟩ (.string hna)).setCell ⟨X + 1, 2, none⟩ (.int .i64 hnn)).setCell ⟨X + 1, 3, none⟩ (.int .i64 (hpo : Nat))).setCell ⟨X + 1, 4, none⟩ (.slice ha hln hc)) := (((((show Mod (fun j => j = X + 1) u2 u2 from Mod.refl _ u2).setCell (p := ⟨X + 1, 0, none⟩) (.inl rfl) _).setCell (p := ⟨X + 1, 1, none⟩) (.inl rfl) _).setCell (p := ⟨X + 1, 2, none⟩) (.inl rfl) _).setCell (p := ⟨X + 1, 3, none⟩) (.inl rfl) _).setCell (p := ⟨X + 1, 4, none⟩) (.inl rfl) _
    exact ⟨⟨hkk, hna, hnn, hpo, ha, hln, hc⟩, rfl, okNd_wide ((okNd_firm okLf_firm).calm HOK11.out (Calm.of hXM (fun j hj _ e => by have := HFX.out; omega))) (by have := HFX.out; have := HXR.out; omega) (Nat.le_trans HS11.out hXM.size), HU2.out.mod hXM (fun j hj e => by have := HXR.out; omega), (HMw.out.trans HMo11.out).trans2 hXM (fun j hj e => by have := HXR.out; omega)⟩
end Go.Proofs.YtoekpdnpncgeeaaGreat
/-
The parser: the articles of a tariff; an item that is a tariff.
-/
namespace Go.Proofs.YtoekpdnpncgeeaaGreat
open Go.RowKit
set_option linter.unusedVariables false
set_option linter.unusedSimpArgs false
theorem artsP_at {toks : List Tok} {f p e : Nat} {xs : List (Nd Lf)} (h : artsP toks f p = some (xs, e)) : ∃ f', f = f' + 1 ∧ ((punP toks [125] p = true ∧ xs = [] ∧ e = p + 1) ∨ (punP toks [125] p = false ∧ ∃ n q r, artP toks p = some (n, q) ∧ artsP toks f' q = some (r, e) ∧ xs = n :: r)) := by
  cases f with
  | zero => unfold artsP at h; cases h
  | succ f =>
    refine ⟨f, rfl, ?_⟩
    unfold artsP at h
    cases hp : punP toks [125] p with
    | true =>
      rw [hp] at h
      simp only [if_true] at h
      injection h with h
      injection h with h1 h2
      exact .inl ⟨rfl, h1.symm, h2.symm⟩
    | false =>
      rw [hp] at h
      simp only [Bool.false_eq_true, if_false] at h
      cases ha : artP toks p with
      | none => rw [ha] at h; cases h
      | some nq =>
        obtain ⟨n, q⟩ := nq
        rw [ha] at h
        obtain ⟨⟨r, e2⟩, h1, h2⟩ := Option.map_eq_some_iff.1 h
        injection h2 with h3 h4
        simp only at h3 h4
        subst h4
        exact .inr ⟨rfl, n, q, r, rfl, h1, h3.symm⟩
theorem peek_pun {toks : List Tok} {len q : Nat} {x : List UInt8} : ((peekT toks len q).kind == 3 && (peekT toks len q).text.toList == x) = punP toks x q := by
  unfold peekT punP
  cases toks[q]? with
  | none => rfl
  | some t => rfl
def ArPost (R N : Nat) (aT : Option Addr) (nT cT : Nat) (toks : List Tok) (len q : Nat) (x : Nd Lf) (B : Nat) (W w' : World) : Prop := N < B ∧ R < B ∧ ∃ h : NH, Own w' N 56 5 (nodeF h.kind h.name h.n h.pos (.slice h.a h.len h.c)) ∧ okNd okLf w' W.heap.size w'.heap.size h x ∧ PaM w' R aT nT cT toks len q ∧ Mod (fun j => j = R ∨ j = N) W w'
set_option maxRecDepth 100000 in
set_option maxHeartbeats 8000000 in
theorem paArticles1_ok (R N X B : Nat) (aT : Option Addr) (nT cT : Nat) (toks : List Tok) (len p q : Nat) (x : Nd Lf) (w : World) (HM : Hid (PaM w R aT nT cT toks len p)) (HN : Hid (Own w N 56 5 (nodeF 0 ⟨#[]⟩ 0 0 (.slice none 0 0)))) (hX : w.cell? ⟨X, 0, none⟩ = some (.pointer (some ⟨R, 0, none⟩))) (HB : Hid (R < N ∧ N < B ∧ B ≤ w.heap.size)) (hit : artP toks p = some (x, q)) :
    Calls Tryz.prog 118 #[.pointer (some ⟨X, 0, none⟩), .pointer (some ⟨N, 0, none⟩)] w fun e w' => e = .returned (.tuple #[]) ∧ ArPost R N aT nT cT toks len q x B w w' := by
  have HC := Lib.hid (paArticle_ok R aT nT cT toks len p q x w HM hit)
  have hXl : X < w.heap.size := World.block_lt_of_cell? _ _ hX
  clear hit
  go_enter Tryz.func118, Tryz.ntmps118
  go_wp2_with fail
  refine HC.out.mono ?_
  rintro e w1 ⟨h, rfl, hok, hM1, hmo1⟩
  have HOK := Lib.hid hok
  have HM1 := Lib.hid hM1
  have HMo1 := Lib.hid hmo1
  have HN1 := Lib.hid (HN.out.mod hmo1 (by have := HB.out; omega))
  clear hok hM1 hmo1 hX hXl
  obtain ⟨hkk, hna, hnn, hpo, ha, hln, hc⟩ := h
  rw [show nhV ⟨hkk, hna, hnn, hpo, ha, hln, hc⟩ = .agg #[.int .i64 hkk, .string hna, .int .i64 hnn, .int .i64 (hpo : Nat), .slice ha hln hc] from rfl]
  have z0 : w1.cell? ⟨N, 0, none⟩ = some (.int .i64 0) := HN1.out.cell (i := 0) (by omega)
  have z1 : w1.cell? ⟨N, 1, none⟩ = some (.string ⟨#[]⟩) := HN1.out.cell (i := 1) (by omega)
  have z2 : w1.cell? ⟨N, 2, none⟩ = some (.int .i64 0) := HN1.out.cell (i := 2) (by omega)
  have z3 : w1.cell? ⟨N, 3, none⟩ = some (.int .i64 (0 : Nat)) := HN1.out.cell (i := 3) (by omega)
  have z4 : w1.cell? ⟨N, 4, none⟩ = some (.slice none 0 0) := HN1.out.cell (i := 4) (by omega)
  have f0 := HN1.out.frozen 0
  have f1 := HN1.out.frozen 1
  have f2 := HN1.out.frozen 2
  have f3 := HN1.out.frozen 3
  have f4 := HN1.out.frozen 4
  have hNl : N < w1.heap.size := HN1.out.lt
  go_wp2_with fail
  go_end0
  refine ⟨rfl, ?_⟩
  have hXM : Mod (fun j => j = N) w1 (((((w1.setCell ⟨N, 0, none⟩ (.int .i64 hkk)).setCell ⟨N, 1, none⟩ (.string hna)).setCell ⟨N, 2, none⟩ (.int .i64 hnn)).setCell ⟨N, 3, none⟩ (.int .i64 (hpo : Nat))).setCell ⟨N, 4, none⟩ (.slice ha hln hc)) := (((((show Mod (fun j => j = N) w1 w1 from Mod.refl _ w1).setCell (p := ⟨N, 0, none⟩) (.inl rfl) _).setCell (p := ⟨N, 1, none⟩) (.inl rfl) _).setCell (p := ⟨N, 2, none⟩) (.inl rfl) _).setCell (p := ⟨N, 3, none⟩) (.inl rfl) _).setCell (p := ⟨N, 4, none⟩) (.inl rfl) _
  have hb := HB.out
  exact ⟨hb.2.1, by omega, ⟨hkk, hna, hnn, hpo, ha, hln, hc⟩, nodeF_all HN1.out hkk hnn hpo hna (.slice ha hln hc), okNd_wide ((okNd_firm okLf_firm).calm HOK.out (Calm.of hXM (fun j hj _ e => by omega))) (Nat.le_refl _) hXM.size, HM1.out.mod hXM (fun j hj e => by omega), (HMo1.out.mono (fun j _ e => .inl e)).trans (hXM.mono (fun j _ e => .inr e))⟩
theorem cf_articles1 (args : Array Value) (W : World) : (callFunc 118 args).run Tryz.prog W = .ok (.enter 118 args) W := by go_simp
set_option maxRecDepth 100000 in
set_option maxHeartbeats 8000000 in
theorem paArticles_ok (R : Nat) (aT : Option Addr) (nT cT : Nat) (toks : List Tok) (len f p e0 : Nat) (xs : List (Nd Lf)) (w : World) (HM : Hid (PaM w R aT nT cT toks len p)) (hit : artsP toks f p = some (xs, e0)) (hf : xs.length ≤ 90000) :
    Calls Tryz.prog 97 #[.pointer (some ⟨R, 0, none⟩)] w (KidPost (okNd okLf) w R aT nT cT toks len e0 xs) := by
  have HLN : Hid (toks.length = nT ∧ nT ≤ 2000) := Lib.hid ⟨HM.out.ln.1, HM.out.ln.2.1⟩
  have HRL : Hid (R < w.heap.size) := Lib.hid HM.out.ow.lt
  have HALL : Hid (artsP toks f p = some (xs, e0)) := Lib.hid hit
  have HXL := Lib.hid hf
  clear hit hf
  obtain ⟨X, hX⟩ : ∃ X, X = w.heap.size := ⟨_, rfl⟩
  obtain ⟨W0, hW0⟩ : ∃ W, W = w.alloc (.cells #[.pointer (some ⟨R, 0, none⟩)] 85) := ⟨_, rfl⟩
  have hb0 : Below w.heap.size w W0 := by rw [hW0]; exact (Below.refl _ _).alloc (Nat.le_refl _) _
  have HX0 : Hid (Own W0 X 85 1 (fun _ => .pointer (some ⟨R, 0, none⟩))) := Lib.hid (by rw [hW0, hX]; exact Own.one _ _ _)
  have HM0 := Lib.hid (HM.out.keep hb0)
  have HMo0 : Hid (Mod (fun j => j = R) w W0) := Lib.hid (modB hb0)
  have HXR : Hid (R < X ∧ w.heap.size ≤ X ∧ X < W0.heap.size) := Lib.hid ⟨by rw [hX]; exact HRL.out, by omega, HX0.out.lt⟩
  have HW0 := Lib.hid hW0
  have HX := Lib.hid hX
  clear hb0 hW0 hX
  go_enter Tryz.func97, Tryz.ntmps97
  go_upto_region 1 with (fail)
  rw [← HW0.out, ← HX.out]
  clear HW0
  go_wp2_with fail
  go_loopg [3] f (fun g1 v3 wr => ∃ (q f' : Nat) (v : Value) (hs : List NH) (acc r : List (Nd Lf)), v3 = v ∧ f' ≤ g1 ∧ Hid (GrL (okNd okLf) wr (X + 1) v hs acc) ∧ Hid (PaM wr R aT nT cT toks len q) ∧ Hid (Mod (fun j => j = R) w wr) ∧ Hid (Own wr X 85 1 (fun _ => .pointer (some ⟨R, 0, none⟩))) ∧ Hid (artsP toks f' q = some (r, e0) ∧ acc ++ r = xs))
  case atStart => exact ⟨p, f, _, [], [], xs, rfl, Nat.le_refl _, Lib.hid (GrL.nil _ _), HM0, HMo0, HX0, Lib.hid ⟨HALL.out, rfl⟩⟩
  case round =>
    clear HM0 HMo0 HX0 HALL
    obtain ⟨q, f', v, hs, acc, r, rfl, hg1, HG, HM, HMo, HX, HA⟩ := hrel
    obtain ⟨va, vc, hv⟩ := HG.out.own.shape
    obtain ⟨vn, hvn⟩ : ∃ vn, vn = hs.length := ⟨_, rfl⟩
    rw [← hvn] at hv
    clear hvn
    subst hv
    have HLA : Hid (acc.length ≤ 90000) := Lib.hid (by have h1 := HXL.out; rw [← HA.out.2, List.length_append] at h1; omega)
    have x0 : wr.cell? ⟨X, 0, none⟩ = some (.pointer (some ⟨R, 0, none⟩)) := HX.out.cell (i := 0) (by omega)
    have hXl : X < wr.heap.size := HX.out.lt
    obtain ⟨f2, hf2, hAT⟩ := artsP_at HA.out.1
    have HAT := Lib.hid hAT
    subst hf2
    clear hAT
    go_wp2_with fail
    refine (paFull_any R aT nT cT toks len q wr HM).mono ?_
    rintro e w1 ⟨rfl, hw1⟩
    rw [hw1]
    clear hw1 w1
    go_upto_region 3 with (fail)
    obtain ⟨t, ht⟩ : ∃ t, peekT toks len q = t := ⟨_, rfl⟩
    have HT := Lib.hid ht
    obtain ⟨pb, hpb⟩ : ∃ pb, pb = punP toks [125] q := ⟨_, rfl⟩
    have HPB : Hid ((t.kind == 3 && t.text.toList == (⟨#[125]⟩ : ByteArray).toList) = pb) := Lib.hid (by rw [show (⟨#[125]⟩ : ByteArray).toList = [125] by kernel_rfl, hpb, ← ht]; exact peek_pun)
    have HPE := Lib.hid hpb
    clear ht hpb
    go_cut [13] from 7 to 35 (fun v13 wx => v13 = .bool pb ∧ Hid (Below wr.heap.size wr wx))
    case first =>
      refine region_z (S := fun w' => Below wr.heap.size wr w') [] (by kernel_rfl) (below_drewN' wr) (fun hHeld => ?_)
      obtain ⟨wd, hwd⟩ : ∃ wd, wd = wr.drew := ⟨_, rfl⟩
      try rw [show wr.drew.heap.size = wr.heap.size from rfl]
      rw [← hwd] at hHeld ⊢
      clear hwd
      refine wpAnyZ_take (i := 1) (v := .pointer (some ⟨R, 0, none⟩)) [2, 3] rfl (by kernel_rfl) (by kernel_rfl) (by kernel_rfl) (by kernel_rfl) (fun _ _ _ h => h) (Or.inl ⟨by kernel_rfl, fun w' hSw => ?_⟩) hHeld ?_
      · have s0 := (hSw.cell (p := ⟨X, 0, none⟩) hXl).trans x0
        have s1 : X < w'.heap.size := Nat.lt_of_lt_of_le hXl hSw.size
        clear hHeld hSw
        go_simp
      simp only [Act.put, List.getElem_toArray, List.getElem_cons_zero, List.getElem_cons_succ, List.setIfInBounds_toArray, List.set_cons_zero, List.set_cons_succ]
      refine wpAnyZ_one (i := 0) (by kernel_rfl) rfl (fun K' hK => ?_)
      go_simp
      refine (paPunct_any ⟨#[125]⟩ wd).mono ?_
      rintro e u1 ⟨rfl, hu⟩
      have hb : Below wd.heap.size wd u1 := by rw [hu]; exact (Below.refl _ _).alloc (Nat.le_refl _) _
      obtain ⟨B, hB⟩ : ∃ B, B = wd.heap.size := ⟨_, rfl⟩
      have HC : Hid (u1.cell? ⟨B, 0, none⟩ = some (.string ⟨#[125]⟩) ∧ B < u1.heap.size) := Lib.hid (by rw [hu, hB]; exact ⟨by go_simp, by simp⟩)
      have x1 : Below wr.heap.size wr u1 := below_then hHeld hb

      rw [← hB]
      clear hu hb hB
      refine hK.out _ _ ?_ (fun hHeld' => ?_)
      · exact x1
      clear x1 hK K' hHeld
      have hHeld := hHeld'
      clear hHeld'
      try simp only [Act.put, List.getElem_toArray, List.getElem_cons_zero, List.getElem_cons_succ, List.setIfInBounds_toArray, List.set_cons_zero, List.set_cons_succ]
      refine wpAnyZ_one (i := 2) (by kernel_rfl) rfl (fun K' hK => ?_)
      go_simp
      refine (paPeek_any R aT nT cT toks len q u1 (Lib.hid (HM.out.keep hHeld))).mono ?_
      rintro e u2 ⟨rfl, hb⟩
      rw [HT.out]
      have x1 : Below wr.heap.size wr u2 := below_then hHeld hb
      have HC := Lib.hid (And.intro ((hb.cell (p := ⟨B, 0, none⟩) HC.out.2).trans HC.out.1) (Nat.lt_of_lt_of_le HC.out.2 hb.size))
      clear hb
      refine hK.out _ _ ?_ (fun hHeld' => ?_)
      · exact x1
      clear x1 hK K' hHeld
      have hHeld := hHeld'
      clear hHeld'
      try simp only [Act.put, List.getElem_toArray, List.getElem_cons_zero, List.getElem_cons_succ, List.setIfInBounds_toArray, List.set_cons_zero, List.set_cons_succ]
      refine wpAnyZ_one (i := 3) (by kernel_rfl) rfl (fun K' hK => ?_)
      go_simp
      refine (paPunct1_any t B ⟨#[125]⟩ u2 HC.out.2 HC.out.1).mono ?_
      rintro e u3 ⟨rfl, hb⟩
      rw [HPB.out]
      have x1 : Below wr.heap.size wr u3 := below_then hHeld hb
      clear hb
      refine hK.out _ _ ?_ (fun hHeld' => ?_)
      · exact x1
      clear x1 hK K' hHeld
      have hHeld := hHeld'
      clear hHeld'
      try simp only [Act.put, List.getElem_toArray, List.getElem_cons_zero, List.getElem_cons_succ, List.setIfInBounds_toArray, List.set_cons_zero, List.set_cons_succ]
      refine wpAnyZ_done (by kernel_rfl) ?_ _
      go_step
      go_step
      go_wp2_with fail
      go_meet
      exact ⟨rfl, Lib.hid hHeld⟩
    case rest =>
      obtain ⟨rfl, HBV⟩ := hcut
      have HG := Lib.hid (HG.out.keep (okNd_firm okLf_firm) HBV.out)
      have HM := Lib.hid (HM.out.keep HBV.out)
      have HX := Lib.hid (HX.out.keep HBV.out HX.out.lt)
      have HMo : Hid (Mod (fun j => j = R) w wc) := Lib.hid (HMo.out.trans (modB HBV.out))
      clear x0 hXl HBV HPB HT t
      obtain ⟨V, hV⟩ : ∃ V, V = wc := ⟨_, rfl⟩
      rw [← hV] at HG HM HX HMo ⊢
      clear hV wc
      cases pb
      · have HN := Lib.hid (HAT.out.resolve_left (fun h => by have h1 := h.1; rw [← HPE.out] at h1; cases h1))
        obtain ⟨-, x, q2, r2, hix, hir, hxr⟩ := HN.out
        have HA2 : Hid (artsP toks f2 q2 = some (r2, e0) ∧ (acc ++ [x]) ++ r2 = xs) := Lib.hid ⟨hir, by rw [List.append_assoc, List.singleton_append, ← hxr]; exact HA.out.2⟩
        have HIX := Lib.hid hix
        clear hix hir hxr HN
        go_upto_region 7 with (fail)
        obtain ⟨W1, hW1⟩ : ∃ W, W = V.alloc (.cells #[.int .i64 0, .string ⟨#[]⟩, .int .i64 0, .int .i64 0, .slice none 0 0] 56) := ⟨_, rfl⟩
        obtain ⟨N, hN⟩ : ∃ N, N = V.heap.size := ⟨_, rfl⟩
        have hb1 : Below V.heap.size V W1 := by rw [hW1]; exact (Below.refl _ _).alloc (Nat.le_refl _) _
        have HN : Hid (Own W1 N 56 5 (nodeF 0 ⟨#[]⟩ 0 0 (.slice none 0 0))) := Lib.hid (by rw [hW1]; exact nodeF_new _ 0 ⟨#[]⟩ 0 0 _ _ hN.symm)
        rw [← hW1, ← hN]
        have HBV := Lib.hid hb1
        have HNV := Lib.hid hN
        have HM1 := Lib.hid (HM.out.keep hb1)
        have HX1 := Lib.hid (HX.out.keep hb1 HX.out.lt)
        have HMo1 : Hid (Mod (fun j => j = R) w W1) := Lib.hid (HMo.out.trans (modB hb1))
        have HNX : Hid (X < N ∧ (∀ b, (Value.slice va vn vc).ownBlock = some b → b < N)) := Lib.hid ⟨by rw [hN]; exact HX.out.lt, fun b hb => by rw [hN]; exact (World.ownsRow.lt HG.out.own b hb).2⟩
        clear hW1 hN hb1 HM HX HMo
        have x0 : W1.cell? ⟨X, 0, none⟩ = some (.pointer (some ⟨R, 0, none⟩)) := HX1.out.cell (i := 0) (by omega)
        have hXl : X < W1.heap.size := HX1.out.lt
        go_wp2_with fail
        refine (paPartF_ok 118 #[.pointer (some ⟨X, 0, none⟩), .pointer (some ⟨N, 0, none⟩)] R W1 (ArPost R N aT nT cT toks len q2 x W1.heap.size) (fun W w' h => ?_) cf_articles1 (Lib.hid (fun W hbW => ?_))).mono ?_
        · obtain ⟨h1, h2, h, h3, h4, h5, h6⟩ := h
          exact ⟨h6.size, h6.mono (fun j _ e => by rcases e with e | e <;> omega)⟩
        · exact paArticles1_ok R N X W1.heap.size aT nT cT toks len q q2 x W (Lib.hid (HM1.out.keep hbW)) (Lib.hid (HN.out.keep hbW HN.out.lt)) ((hbW.cell (p := ⟨X, 0, none⟩) HX1.out.lt).trans (HX1.out.cell (i := 0) (by omega))) (Lib.hid ⟨by have := HNX.out.1; have := HXR.out; omega, HN.out.lt, hbW.size⟩) HIX.out
        rintro e w4 ⟨rfl, W, w3, hbW, hpo, hm4⟩
        obtain ⟨hp1, hp2, hh, hp3, hp4, hp5, hp6⟩ := hpo
        obtain ⟨hkk, hna, hnn, hpo, ha, hln, hc⟩ := hh
        have HN4 : Hid (Own w4 N 56 5 (nodeF hkk hna hnn hpo (.slice ha hln hc))) := Lib.hid (hp3.mod hm4 (by omega))
        have HOK4 : Hid (okNd okLf w4 W.heap.size w3.heap.size ⟨hkk, hna, hnn, hpo, ha, hln, hc⟩ x) := Lib.hid ((okNd_firm okLf_firm).calm hp4 (Calm.of hm4 (fun j h1 h2 e => by omega)))
        have HM4 : Hid (PaM w4 R aT nT cT toks len q2) := Lib.hid (hp5.mod hm4 (fun j hj e => by omega))
        have hmw : Mod (fun j => j = R ∨ j = N) W1 w4 := ((modB hbW).trans hp6).trans2 hm4 (fun j hj e => by omega)
        have hmV : Mod (fun j => j = R) V w4 := (show Mod (fun j => j = R) V W1 from modB HBV.out).trans2 hmw (fun j hj e => by have := HNV.out; rcases e with e | e <;> omega)
        have HG4 := Lib.hid (HG.out.mod (okNd_firm okLf_firm) hmV (fun j hj _ e => by have := HXR.out; omega))
        have HX4 := Lib.hid (HX1.out.mod hmw (by have := HXR.out; have := HNX.out.1; omega))
        have HMo4 : Hid (Mod (fun j => j = R) w w4) := Lib.hid (HMo1.out.trans2 hmw (fun j hj e => by have := HXR.out; have := HNX.out.1; omega))
        have HSW : Hid (N < W.heap.size ∧ W.heap.size ≤ w3.heap.size ∧ w3.heap.size ≤ w4.heap.size) := Lib.hid ⟨Nat.lt_of_lt_of_le HN.out.lt hbW.size, hp6.size, hm4.size⟩
        clear hbW hp1 hp2 hp3 hp4 hp5 hp6 hm4 hmw hmV HG HX1 HMo1 HM1 HN x0 hXl
        obtain ⟨ap, v', w6, av, aw, HG6, HM6, HB6⟩ := app_node (okNd_firm okLf_firm) HG4.out (by have := HSW.out; have := HNX.out.1; omega) (by rw [HG4.out.len]; have := HLA.out; omega) ⟨hkk, hna, hnn, hpo, ha, hln, hc⟩ x (lo := W.heap.size) (hi := w3.heap.size) (by have := HSW.out; have := HNX.out.1; omega) HSW.out.2.1 HSW.out.2.2 (fun b hb => .inl (by have := HNX.out.2 b hb; have := HSW.out; omega)) HOK4.out
        have HP6 : Hid (PaM w6 R aT nT cT toks len q2) := Lib.hid (HM4.out.mod HM6.out (fun j hj e => by have := (World.ownsRow.lt HG4.out.own _ e).1; have := HXR.out; omega))
        have HMo6 : Hid (Mod (fun j => j = R) w w6) := Lib.hid (HMo4.out.trans2 HM6.out (fun j hj e => by have := (World.ownsRow.lt HG4.out.own _ e).1; have := HXR.out; omega))
        have HX6 := Lib.hid (HX4.out.mod HM6.out (fun e => by have := (World.ownsRow.lt HG4.out.own _ e).1; omega))
        have y0 : w4.cell? ⟨N, 0, none⟩ = some (.int .i64 hkk) := HN4.out.cell (i := 0) (by omega)
        have y1 : w4.cell? ⟨N, 1, none⟩ = some (.string hna) := HN4.out.cell (i := 1) (by omega)
        have y2 : w4.cell? ⟨N, 2, none⟩ = some (.int .i64 hnn) := HN4.out.cell (i := 2) (by omega)
        have y3 : w4.cell? ⟨N, 3, none⟩ = some (.int .i64 (hpo : Nat)) := HN4.out.cell (i := 3) (by omega)
        have y4 : w4.cell? ⟨N, 4, none⟩ = some (.slice ha hln hc) := HN4.out.cell (i := 4) (by omega)
        have hNl : N < w4.heap.size := HN4.out.lt
        clear HG4 HX4 HMo4 HM4 HM6 HB6 HOK4
        go_wp2_with fail
        go_roundg f2
        case measure => omega
        case rel => exact ⟨q2, f2, _, _, acc ++ [x], r2, rfl, Nat.le_refl _, HG6, HP6, HMo6, HX6, HA2⟩
      · have HN := Lib.hid (HAT.out.resolve_right (fun h => by have h1 := h.1; rw [← HPE.out] at h1; cases h1))
        have hqn : q ≤ 2000 := by
          obtain ⟨t, ht, _, _⟩ := punP_some HN.out.1
          have h1 := (List.getElem?_eq_some_iff.1 ht).1
          have := HLN.out
          omega
        have HE : Hid (acc = xs ∧ e0 = q + 1) := Lib.hid (by
          have h2 := HA.out.2
          rw [HN.out.2.1, List.append_nil] at h2
          exact ⟨h2, HN.out.2.2⟩)
        obtain ⟨k0, k1, k2, k3⟩ := HM.out.cells
        have fr := HM.out.ow.frozen 1
        have hRl : R < V.heap.size := HM.out.ow.lt
        have x0 : V.cell? ⟨X, 0, none⟩ = some (.pointer (some ⟨R, 0, none⟩)) := HX.out.cell (i := 0) (by omega)
        have hXl : X < V.heap.size := HX.out.lt
        have hqw : IntKind.i64.wrap ((q : Int) + 1) = (q : Int) + 1 := IntWalk.i64_in _ (by omega)
        go_wp2_with fail
        obtain ⟨w7, hw7⟩ : ∃ W, W = V.setCell ⟨R, 1, none⟩ (.int .i64 ((q : Int) + 1)) := ⟨_, rfl⟩
        have HM7 : Hid (PaM w7 R aT nT cT toks len (q + 1)) := Lib.hid (by rw [hw7]; exact HM.out.setPos (q + 1))
        have hmr : Mod (fun j => j = R) V w7 := by rw [hw7]; exact (show Mod (fun j => j = R) V V from Mod.refl _ V).setCell (p := ⟨R, 1, none⟩) (.inl rfl) _
        have HMo7 : Hid (Mod (fun j => j = R) w w7) := Lib.hid (HMo.out.trans hmr)
        have HG7 := Lib.hid (HG.out.mod (okNd_firm okLf_firm) hmr (fun j hj _ e => by have := HXR.out; omega))
        rw [← hw7]
        go_ret
        exact ⟨va, vn, vc, hs, rfl, by rw [← HE.out.1]; exact HG7.out.base (by have := HXR.out; omega), by rw [HE.out.2]; exact HM7.out, HMo7.out⟩
theorem cf_articles (args : Array Value) (W : World) : (callFunc 97 args).run Tryz.prog W = .ok (.enter 97 args) W := by go_simp
set_option maxRecDepth 100000 in
set_option maxHeartbeats 8000000 in
/-- A node whose kids are read by three functions. -/
theorem paNode_three {X : Type} {ok : World → Nat → Nat → NH → X → Prop} (hf : Firm ok) (FA FB FC : Nat) (bd cs bd2 cs2 bd3 cs3 : Array Value) (R F0 : Nat) (aT : Option Addr) (nT cT : Nat) (toks : List Tok) (len p q q2 q3 : Nat) (t : Tok) (kind : Int) (name : ByteArray) (n : Int) (xs xs2 xs3 : List X) (w : World) (HM : Hid (PaM w R aT nT cT toks len p)) (hF : w.cell? ⟨F0, 0, none⟩ = some (.func (.func FA) bd cs)) (hF2 : w.cell? ⟨F0, 1, none⟩ = some (.func (.func FB) bd2 cs2)) (hF3 : w.cell? ⟨F0, 2, none⟩ = some (.func (.func FC) bd3 cs3)) (hR : F0 ≠ R) (hxs : xs.length + xs2.length + xs3.length ≤ 90000)
    (hCF : ∀ (args : Array Value) (W : World), (callFunc FA args).run Tryz.prog W = .ok (.enter FA args) W) (hCF2 : ∀ (args : Array Value) (W : World), (callFunc FB args).run Tryz.prog W = .ok (.enter FB args) W) (hCF3 : ∀ (args : Array Value) (W : World), (callFunc FC args).run Tryz.prog W = .ok (.enter FC args) W) (HC : Hid (∀ W, Mod (fun j => j = R) w W → PaM W R aT nT cT toks len p → Calls Tryz.prog FA (bd ++ cs) W (KidPost ok W R aT nT cT toks len q xs))) (HC2 : Hid (∀ W, Mod (fun j => j = R) w W → PaM W R aT nT cT toks len q → Calls Tryz.prog FB (bd2 ++ cs2) W (KidPost ok W R aT nT cT toks len q2 xs2))) (HC3 : Hid (∀ W, Mod (fun j => j = R) w W → PaM W R aT nT cT toks len q2 → Calls Tryz.prog FC (bd3 ++ cs3) W (KidPost ok W R aT nT cT toks len q3 xs3))) :
    Calls Tryz.prog 31 #[tokV t, .int .i64 kind, .string name, .int .i64 n, .slice (some ⟨F0, 0, none⟩) 3 3] w fun e w' => ∃ h : NH, e = .returned (nhV h) ∧ okNd ok w' w.heap.size w'.heap.size h ⟨kind, name, n, t.pos, xs ++ xs2 ++ xs3⟩ ∧ PaM w' R aT nT cT toks len q3 ∧ Mod (fun j => j = R) w w' := by
  have h1 := paNode_any (X := X) hf R aT nT cT toks len t kind name n 3 (some ⟨F0, 0, none⟩) 3 (fun i => if i = 0 then FA else if i = 1 then FB else FC) (fun i => if i = 0 then bd else if i = 1 then bd2 else bd3) (fun i => if i = 0 then cs else if i = 1 then cs2 else cs3) (fun i => if i = 0 then p else if i = 1 then q else if i = 2 then q2 else q3) (fun i => if i = 0 then xs else if i = 1 then xs2 else if i = 2 then xs3 else []) w HM (Lib.hid (fun i hi => by
    match i, hi with
    | 0, _ => exact ⟨F0, 0, rfl, World.block_lt_of_cell? _ _ hF, hF, hR⟩
    | 1, _ => exact ⟨F0, 0, rfl, World.block_lt_of_cell? _ _ hF, hF2, hR⟩
    | 2, _ => exact ⟨F0, 0, rfl, World.block_lt_of_cell? _ _ hF, hF3, hR⟩)) (by omega) (Lib.hid (fun i hi => by
    match i, hi with
    | 0, _ => exact ⟨by simp [kidsF], by show xs.length ≤ 90000; omega⟩
    | 1, _ => exact ⟨by simp [kidsF]; omega, by show xs2.length ≤ 90000; omega⟩
    | 2, _ => exact ⟨by simp [kidsF]; omega, by show xs3.length ≤ 90000; omega⟩
    | 3, _ => exact ⟨by simp [kidsF]; omega, by simp⟩)) (fun i => by
    by_cases h : i = 0
    · subst h; exact hCF
    · by_cases h' : i = 1
      · subst h'; exact hCF2
      · simp only [if_neg h, if_neg h']; exact hCF3) (Lib.hid (fun i hi W h1 h2 => by
    match i, hi with
    | 0, _ => exact HC.out W h1 h2
    | 1, _ => exact HC2.out W h1 h2
    | 2, _ => exact HC3.out W h1 h2))
  refine h1.mono ?_
  rintro e w4 ⟨na, nl, nc, nhs, rfl, hg4, hp4, hmo4⟩
  refine ⟨_, rfl, ⟨rfl, rfl, rfl, rfl, nhs, ?_⟩, hp4, hmo4⟩
  have : kidsF (fun i : Nat => if i = 0 then xs else if i = 1 then xs2 else if i = 2 then xs3 else []) 3 = xs ++ xs2 ++ xs3 := by simp [kidsF]
  rw [this] at hg4
  exact hg4.tree
end Go.Proofs.YtoekpdnpncgeeaaGreat
/-
The parser: an item that is a tariff.
-/
namespace Go.Proofs.YtoekpdnpncgeeaaGreat
open Go.RowKit
set_option linter.unusedVariables false
set_option linter.unusedSimpArgs false
theorem itemP_7 {toks : List Tok} {p q : Nat} {x : Nd (Nd Lf)} {t u : Tok} (h : itemP toks p = some (x, q)) (ht : toks[p]? = some t) (hu : toks[p + 1]? = some u) (hk : kindD t.text = 7) :
    ∃ ax, punP toks [123] (attrsP toks (toks.length - (p + 2)) (p + 2)).2 = true ∧ artsP toks (toks.length - ((attrsP toks (toks.length - (p + 2)) (p + 2)).2 + 1)) ((attrsP toks (toks.length - (p + 2)) (p + 2)).2 + 1) = some (ax, q) ∧ x = ⟨2, u.text, 7, t.pos, (attrsP toks (toks.length - (p + 2)) (p + 2)).1 ++ ax⟩ := by
  unfold itemP at h
  rw [ht, hu] at h
  simp only at h
  by_cases hc : (t.kind == 1 && kindD t.text != 0 && u.kind == 1 && nkD u.text) = true
  · rw [if_pos hc, if_pos (by rw [hk]; rfl)] at h
    by_cases hp : punP toks [123] (attrsP toks (toks.length - (p + 2)) (p + 2)).2 = true
    · rw [if_pos hp] at h
      obtain ⟨⟨ax, e⟩, h1, h2⟩ := Option.map_eq_some_iff.1 h
      injection h2 with h3 h4
      simp only at h3 h4
      subst h4
      exact ⟨ax, hp, h1, by rw [← h3, hk]⟩
    · rw [if_neg hp] at h; cases h
  · rw [if_neg hc] at h; cases h
theorem artsP_len {toks : List Tok} : ∀ {f p e : Nat} {xs : List (Nd Lf)}, artsP toks f p = some (xs, e) → xs.length ≤ f
  | 0, p, e, xs, h => by unfold artsP at h; cases h
  | f + 1, p, e, xs, h => by
    obtain ⟨f', hf, h1⟩ := artsP_at h
    obtain rfl : f = f' := by omega
    rcases h1 with ⟨_, h2, _⟩ | ⟨_, n, q, r, _, h3, h4⟩
    · rw [h2]; simp
    · have := artsP_len h3
      rw [h4]
      simp only [List.length_cons]
      omega
set_option maxRecDepth 100000 in
set_option maxHeartbeats 8000000 in
theorem paItemF7_ok (R : Nat) (aT : Option Addr) (nT cT : Nat) (toks : List Tok) (len p q : Nat) (x : Nd (Nd Lf)) (w : World) (HM : Hid (PaM w R aT nT cT toks len p)) (hit : itemP toks p = some (x, q)) (h7 : x.n = 7) :
    Calls Tryz.prog 64 #[.pointer (some ⟨R, 0, none⟩)] w fun e w' => ∃ h : NH, e = .returned (nhV h) ∧ okNd (okNd okLf) w' w.heap.size w'.heap.size h x ∧ PaM w' R aT nT cT toks len q ∧ Mod (fun j => j = R) w w' := by
  have HI := Lib.hid (itemP_some hit)
  obtain ⟨t, u, ht, hu, hkt, hkd, hku, hnk, hrest⟩ := HI.out
  have hk7 : kindD t.text = 7 := by
    by_cases e : kindD t.text = 7
    · exact e
    · obtain ⟨_, hx, _⟩ := hrest e
      rw [hx] at h7
      exact h7
  obtain ⟨ax, hpun, harts, hx⟩ := itemP_7 hit ht hu hk7
  have HLN : Hid (toks.length = nT ∧ nT ≤ 2000) := Lib.hid ⟨HM.out.ln.1, HM.out.ln.2.1⟩
  have hp2 : p + 2 ≤ toks.length := by have := (List.getElem?_eq_some_iff.1 hu).1; omega
  have hkde : (7 : Int) = kindD t.text := hk7.symm
  obtain ⟨ap, hap⟩ : ∃ ap, ap = attrsP toks (toks.length - (p + 2)) (p + 2) := ⟨_, rfl⟩
  have HAP := Lib.hid hap
  have HAL : Hid (ap.1.length ≤ 2000 ∧ p + 2 ≤ ap.2) := Lib.hid (by have := attrsP_le toks (toks.length - (p + 2)) (p + 2) hp2; rw [hap]; have := HLN.out; omega)
  rw [← hap] at hpun harts hx
  have HKDE := Lib.hid hkde
  have HPUN := Lib.hid hpun
  have HARTS := Lib.hid harts
  have HASL : Hid (ax.length ≤ 2000) := Lib.hid (by have h := artsP_len harts; have h2 := HLN.out; omega)
  have HKD := Lib.hid hkd
  have HNK := Lib.hid hnk
  have HTt := Lib.hid ht
  have HTu := Lib.hid hu
  have HKt := Lib.hid hkt
  have HKu := Lib.hid hku
  have HP2 := Lib.hid hp2
  subst hx
  clear HI ht hu hkt hkd hku hnk hrest hk7 hpun harts hap hkde hit h7 hp2
  obtain ⟨X, hX⟩ : ∃ X, X = w.heap.size := ⟨_, rfl⟩
  obtain ⟨w0, hw0⟩ : ∃ W, W = (w.alloc (.cells #[.pointer (some ⟨R, 0, none⟩)] 85)).alloc (.cells #[.int .i64 0, .string ⟨#[]⟩, .int .i64 0, .int .i64 0, .slice none 0 0] 56) := ⟨_, rfl⟩
  have hb0 : Below w.heap.size w w0 := by rw [hw0]; exact ((Below.refl _ _).alloc (Nat.le_refl _) _).alloc (by simp) _
  have HX0 : Hid (Own w0 X 85 1 (fun _ => .pointer (some ⟨R, 0, none⟩))) := Lib.hid (by rw [hw0, hX]; exact (Own.one _ _ _).alloc _)
  have HN0 : Hid (Own w0 (X + 1) 56 5 (nodeF 0 ⟨#[]⟩ 0 0 (.slice none 0 0))) := Lib.hid (by rw [hw0]; exact nodeF_new _ 0 ⟨#[]⟩ 0 0 _ _ (by simp [hX]))
  have HXR : Hid (R < X ∧ X + 1 < w0.heap.size ∧ w.heap.size = X) := Lib.hid ⟨by rw [hX]; exact HM.out.ow.lt, HN0.out.lt, hX.symm⟩
  have HM := Lib.hid (HM.out.keep hb0)
  have HMw : Hid (Mod (fun j => j = R) w w0) := Lib.hid (modB hb0)
  have x0 : w0.cell? ⟨X, 0, none⟩ = some (.pointer (some ⟨R, 0, none⟩)) := HX0.out.cell (i := 0) (by omega)
  have hXl : X < w0.heap.size := HX0.out.lt
  have HW0 := Lib.hid hw0
  have HX := Lib.hid hX
  clear hb0 hw0 hX
  go_enter Tryz.func64, Tryz.ntmps64
  go_upto_region 1 with (fail)
  try simp only [World.size_alloc]
  rw [← HW0.out, ← HX.out]
  clear HW0
  go_cut [3] (fun v3 wx => ∃ Z, v3 = .pointer (some ⟨Z, 0, none⟩) ∧ Hid (Own wx Z 90 4 (tokF t)) ∧ Hid (PaM wx R aT nT cT toks len (p + 1)) ∧ Hid (Mod (fun j => j = R) w0 wx) ∧ Hid (w0.heap.size ≤ Z))
  case first =>
    refine region_z (S := fun w' => w'.cell? ⟨X, 0, none⟩ = some (.pointer (some ⟨R, 0, none⟩))) [] (by kernel_rfl) x0 (fun hHeld => ?_)
    obtain ⟨wd, hwd⟩ : ∃ wd, wd = w0.drew := ⟨_, rfl⟩
    rw [← hwd] at hHeld ⊢
    have HM : Hid (PaM wd R aT nT cT toks len p) := Lib.hid (by rw [hwd]; exact ⟨HM.out.ow, HM.out.tk, HM.out.ln, HM.out.ne⟩)
    have HMo : Hid (Mod (fun j => j = R) w0 wd) := Lib.hid (by rw [hwd]; exact (Mod.refl _ w0).drew)
    clear hwd
    refine wpAnyZ_take (i := 0) (v := .pointer (some ⟨R, 0, none⟩)) [2, 4] rfl (by kernel_rfl) (by kernel_rfl) (by kernel_rfl) (by kernel_rfl) (fun _ _ _ h => h) (Or.inl ⟨by kernel_rfl, fun w' hSw => ?_⟩) hHeld ?_
    · have s0 := hSw
      clear hHeld hSw
      go_simp
    simp only [Act.put, List.getElem_toArray, List.getElem_cons_zero, List.getElem_cons_succ, List.setIfInBounds_toArray, List.set_cons_zero, List.set_cons_succ]
    refine wpAnyZ_two (i := 1) (k := 3) (by kernel_rfl) rfl rfl (fun K' hK => ?_) (fun K' hK => ?_)
    · go_simp
      refine (paWordF_any (.func (.func 91) #[] #[]) _ 91 rfl).mono ?_
      rintro e v1 ⟨rfl, hw⟩
      have hb : Below wd.heap.size wd v1 := by rw [hw]; exact (Below.refl _ _).alloc (Nat.le_refl _) _
      obtain ⟨B1, hB⟩ : ∃ B, B = wd.heap.size := ⟨_, rfl⟩
      have HCB1 : Hid (v1.cell? ⟨B1, 0, none⟩ = some (.func (.func 91) #[] #[]) ∧ B1 < v1.heap.size) := Lib.hid (by rw [hw, hB]; exact ⟨by go_simp, by simp⟩)
      have HM := Lib.hid (HM.out.keep hb)
      have x1 : v1.cell? ⟨X, 0, none⟩ = some (.pointer (some ⟨R, 0, none⟩)) := (hb.cell (p := ⟨X, 0, none⟩) (World.block_lt_of_cell? _ _ hHeld)).trans hHeld
      have HMo := Lib.hid (HMo.out.trans (modB hb))
      try rw [show wd.drew.heap.size = wd.heap.size from rfl]
      rw [← hB]
      clear hw hb hB
      refine hK.out _ _ ?_ (fun hHeld' => ?_)
      · exact x1
      clear x1
      clear hK K' hHeld
      have hHeld := hHeld'
      clear hHeld'
      try simp only [Act.put, List.getElem_toArray, List.getElem_cons_zero, List.getElem_cons_succ, List.setIfInBounds_toArray, List.set_cons_zero, List.set_cons_succ]
      refine wpAnyZ_two (i := 2) (k := 3) (by kernel_rfl) rfl rfl (fun K' hK => ?_) (fun K' hK => ?_)
      · go_simp
        refine (paTake_any R aT nT cT toks len p 112 (.pointer (some ⟨B1, 0, none⟩)) t v1 HM HTt.out (by rw [HKt.out]; omega) cf_word1 (Lib.hid (fun W hbW => by
          refine paWordF1_ok t B1 91 true W HKt.out (Nat.lt_of_lt_of_le HCB1.out.2 hbW.size) ((hbW.cell (p := ⟨B1, 0, none⟩) HCB1.out.2).trans HCB1.out.1) cf_itemF1 (Lib.hid (fun W => ?_))
          exact (paItemF1_any t.text W).mono (fun e w' h => ⟨by rw [h.1, kindD_eq]; exact congrArg (fun b => Ending.returned (Value.bool b)) (bne_iff_ne.2 HKD.out), by rw [h.2]; exact Below.refl _ _⟩)))).mono ?_
        rintro e v2 ⟨rfl, hM, hmo⟩
        have HM := Lib.hid hM
        have x1 : v2.cell? ⟨X, 0, none⟩ = some (.pointer (some ⟨R, 0, none⟩)) := (hmo.cell (p := ⟨X, 0, none⟩) (World.block_lt_of_cell? _ _ hHeld) (by show X ≠ R; have := HXR.out; omega)).trans hHeld
        have HMo := Lib.hid (HMo.out.trans hmo)
        refine hK.out _ _ ?_ (fun hHeld' => ?_)
        · exact x1
        clear x1 hM hmo
        clear hK K' hHeld
        have hHeld := hHeld'
        clear hHeld'
        try simp only [Act.put, List.getElem_toArray, List.getElem_cons_zero, List.getElem_cons_succ, List.setIfInBounds_toArray, List.set_cons_zero, List.set_cons_succ]
        refine wpAnyZ_one (i := 3) (by kernel_rfl) rfl (fun K' hK => ?_)
        obtain ⟨v3, hw⟩ : ∃ W, W = v2.alloc (.cells #[.int .i64 0, .string ⟨#[]⟩, .int .i64 0, .int .i64 0] 90) := ⟨_, rfl⟩
        go_simp
        rw [← hw]
        have hb : Below v2.heap.size v2 v3 := by rw [hw]; exact (Below.refl _ _).alloc (Nat.le_refl _) _
        obtain ⟨Z, hZ⟩ : ∃ Z, Z = v2.heap.size := ⟨_, rfl⟩
        have HO : Hid (Own v3 Z 90 4 (tokF ⟨0, ⟨#[]⟩, 0, 0⟩)) := Lib.hid (by rw [hw, hZ]; exact own_tok _ 0 0 0 ⟨#[]⟩ _ rfl)
        have HZ : Hid (w0.heap.size ≤ Z) := Lib.hid (by rw [hZ]; exact HMo.out.size)
        try rw [show v2.drew.heap.size = v2.heap.size from rfl]
        rw [← hZ]
        have HM := Lib.hid (HM.out.keep hb)
        have x1 : v3.cell? ⟨X, 0, none⟩ = some (.pointer (some ⟨R, 0, none⟩)) := (hb.cell (p := ⟨X, 0, none⟩) (World.block_lt_of_cell? _ _ hHeld)).trans hHeld
        have HMo := Lib.hid (HMo.out.trans (modB hb))

        clear hw hb hZ
        refine hK.out _ _ ?_ (fun hHeld' => ?_)
        · exact x1
        clear x1
        clear hK K' hHeld
        have hHeld := hHeld'
        clear hHeld'
        try simp only [Act.put, List.getElem_toArray, List.getElem_cons_zero, List.getElem_cons_succ, List.setIfInBounds_toArray, List.set_cons_zero, List.set_cons_succ]
        refine wpAnyZ_one (i := 4) (by kernel_rfl) rfl (fun K' hK => ?_)
        have y0 : v3.cell? ⟨Z, 0, none⟩ = some (.int .i64 0) := HO.out.cell (i := 0) (by omega)
        have y1 : v3.cell? ⟨Z, 1, none⟩ = some (.string ⟨#[]⟩) := HO.out.cell (i := 1) (by omega)
        have y2 : v3.cell? ⟨Z, 2, none⟩ = some (.int .i64 0) := HO.out.cell (i := 2) (by omega)
        have y3 : v3.cell? ⟨Z, 3, none⟩ = some (.int .i64 (0 : Nat)) := HO.out.cell (i := 3) (by omega)
        have f0 := HO.out.frozen 0
        have f1 := HO.out.frozen 1
        have f2 := HO.out.frozen 2
        have f3 := HO.out.frozen 3
        have hZl : Z < v3.heap.size := HO.out.lt
        rw [show tokV t = .agg #[.int .i64 t.kind, .string t.text, .int .i64 t.n, .int .i64 (t.pos : Nat)] from rfl]
        go_simp
        obtain ⟨v4, hw⟩ : ∃ W, W = (((v3.setCell ⟨Z, 0, none⟩ (.int .i64 t.kind)).setCell ⟨Z, 1, none⟩ (.string t.text)).setCell ⟨Z, 2, none⟩ (.int .i64 t.n)).setCell ⟨Z, 3, none⟩ (.int .i64 (t.pos : Nat)) := ⟨_, rfl⟩
        have HO : Hid (Own v4 Z 90 4 (tokF t)) := Lib.hid (by rw [hw]; exact HO.out.setTok t.kind t.n t.pos t.text)
        have hmz : Mod (fun j => j = Z) v3 v4 := by rw [hw]; exact ((((show Mod (fun j => j = Z) v3 v3 from Mod.refl _ v3).setCell (p := ⟨Z, 0, none⟩) (.inl rfl) _).setCell (p := ⟨Z, 1, none⟩) (.inl rfl) _).setCell (p := ⟨Z, 2, none⟩) (.inl rfl) _).setCell (p := ⟨Z, 3, none⟩) (.inl rfl) _
        rw [← hw]
        have HM := Lib.hid (HM.out.mod hmz (fun j hj e => by have := HXR.out; have := HZ.out; omega))
        have HMo := Lib.hid (HMo.out.trans2 hmz (fun j hj e => by have := HZ.out; omega))
        have x1 : v4.cell? ⟨X, 0, none⟩ = some (.pointer (some ⟨R, 0, none⟩)) := (hmz.cell (p := ⟨X, 0, none⟩) (World.block_lt_of_cell? _ _ hHeld) (by have := HXR.out; have := HZ.out; show X ≠ Z; omega)).trans hHeld
        clear hw hmz y0 y1 y2 y3 f0 f1 f2 f3 hZl
        refine hK.out _ _ ?_ (fun hHeld' => ?_)
        · exact x1
        clear x1
        clear hK K' hHeld
        have hHeld := hHeld'
        clear hHeld'
        try simp only [Act.put, List.getElem_toArray, List.getElem_cons_zero, List.getElem_cons_succ, List.setIfInBounds_toArray, List.set_cons_zero, List.set_cons_succ]
        refine wpAnyZ_done (by kernel_rfl) ?_ _
        go_wp2_with fail
        go_meet
        exact ⟨Z, rfl, HO, HM, HMo, HZ⟩
      · obtain ⟨v2, hw⟩ : ∃ W, W = v1.alloc (.cells #[.int .i64 0, .string ⟨#[]⟩, .int .i64 0, .int .i64 0] 90) := ⟨_, rfl⟩
        go_simp
        rw [← hw]
        have hb : Below v1.heap.size v1 v2 := by rw [hw]; exact (Below.refl _ _).alloc (Nat.le_refl _) _
        obtain ⟨Z, hZ⟩ : ∃ Z, Z = v1.heap.size := ⟨_, rfl⟩
        have HO : Hid (Own v2 Z 90 4 (tokF ⟨0, ⟨#[]⟩, 0, 0⟩)) := Lib.hid (by rw [hw, hZ]; exact own_tok _ 0 0 0 ⟨#[]⟩ _ rfl)
        have HZ : Hid (w0.heap.size ≤ Z) := Lib.hid (by rw [hZ]; exact HMo.out.size)
        try rw [show v1.drew.heap.size = v1.heap.size from rfl]
        rw [← hZ]
        have HM := Lib.hid (HM.out.keep hb)
        have x1 : v2.cell? ⟨X, 0, none⟩ = some (.pointer (some ⟨R, 0, none⟩)) := (hb.cell (p := ⟨X, 0, none⟩) (World.block_lt_of_cell? _ _ hHeld)).trans hHeld
        have HMo := Lib.hid (HMo.out.trans (modB hb))
        have HCB1 : Hid (v2.cell? ⟨B1, 0, none⟩ = some (.func (.func 91) #[] #[]) ∧ B1 < v2.heap.size) := Lib.hid ⟨(hb.cell (p := ⟨B1, 0, none⟩) HCB1.out.2).trans HCB1.out.1, Nat.lt_of_lt_of_le HCB1.out.2 hb.size⟩
        clear hw hb hZ
        refine hK.out _ _ ?_ (fun hHeld' => ?_)
        · exact x1
        clear x1
        clear hK K' hHeld
        have hHeld := hHeld'
        clear hHeld'
        try simp only [Act.put, List.getElem_toArray, List.getElem_cons_zero, List.getElem_cons_succ, List.setIfInBounds_toArray, List.set_cons_zero, List.set_cons_succ]
        refine wpAnyZ_one (i := 2) (by kernel_rfl) rfl (fun K' hK => ?_)
        go_simp
        refine (paTake_any R aT nT cT toks len p 112 (.pointer (some ⟨B1, 0, none⟩)) t v2 HM HTt.out (by rw [HKt.out]; omega) cf_word1 (Lib.hid (fun W hbW => by
          refine paWordF1_ok t B1 91 true W HKt.out (Nat.lt_of_lt_of_le HCB1.out.2 hbW.size) ((hbW.cell (p := ⟨B1, 0, none⟩) HCB1.out.2).trans HCB1.out.1) cf_itemF1 (Lib.hid (fun W => ?_))
          exact (paItemF1_any t.text W).mono (fun e w' h => ⟨by rw [h.1, kindD_eq]; exact congrArg (fun b => Ending.returned (Value.bool b)) (bne_iff_ne.2 HKD.out), by rw [h.2]; exact Below.refl _ _⟩)))).mono ?_
        rintro e v3 ⟨rfl, hM, hmo⟩
        have HM := Lib.hid hM
        have x1 : v3.cell? ⟨X, 0, none⟩ = some (.pointer (some ⟨R, 0, none⟩)) := (hmo.cell (p := ⟨X, 0, none⟩) (World.block_lt_of_cell? _ _ hHeld) (by show X ≠ R; have := HXR.out; omega)).trans hHeld
        have HMo := Lib.hid (HMo.out.trans hmo)
        have HO := Lib.hid (HO.out.mod hmo (by have := HXR.out; have := HZ.out; omega))
        refine hK.out _ _ ?_ (fun hHeld' => ?_)
        · exact x1
        clear x1 hM hmo
        clear hK K' hHeld
        have hHeld := hHeld'
        clear hHeld'
        try simp only [Act.put, List.getElem_toArray, List.getElem_cons_zero, List.getElem_cons_succ, List.setIfInBounds_toArray, List.set_cons_zero, List.set_cons_succ]
        refine wpAnyZ_one (i := 4) (by kernel_rfl) rfl (fun K' hK => ?_)
        have y0 : v3.cell? ⟨Z, 0, none⟩ = some (.int .i64 0) := HO.out.cell (i := 0) (by omega)
        have y1 : v3.cell? ⟨Z, 1, none⟩ = some (.string ⟨#[]⟩) := HO.out.cell (i := 1) (by omega)
        have y2 : v3.cell? ⟨Z, 2, none⟩ = some (.int .i64 0) := HO.out.cell (i := 2) (by omega)
        have y3 : v3.cell? ⟨Z, 3, none⟩ = some (.int .i64 (0 : Nat)) := HO.out.cell (i := 3) (by omega)
        have f0 := HO.out.frozen 0
        have f1 := HO.out.frozen 1
        have f2 := HO.out.frozen 2
        have f3 := HO.out.frozen 3
        have hZl : Z < v3.heap.size := HO.out.lt
        rw [show tokV t = .agg #[.int .i64 t.kind, .string t.text, .int .i64 t.n, .int .i64 (t.pos : Nat)] from rfl]
        go_simp
        obtain ⟨v4, hw⟩ : ∃ W, W = (((v3.setCell ⟨Z, 0, none⟩ (.int .i64 t.kind)).setCell ⟨Z, 1, none⟩ (.string t.text)).setCell ⟨Z, 2, none⟩ (.int .i64 t.n)).setCell ⟨Z, 3, none⟩ (.int .i64 (t.pos : Nat)) := ⟨_, rfl⟩
        have HO : Hid (Own v4 Z 90 4 (tokF t)) := Lib.hid (by rw [hw]; exact HO.out.setTok t.kind t.n t.pos t.text)
        have hmz : Mod (fun j => j = Z) v3 v4 := by rw [hw]; exact ((((show Mod (fun j => j = Z) v3 v3 from Mod.refl _ v3).setCell (p := ⟨Z, 0, none⟩) (.inl rfl) _).setCell (p := ⟨Z, 1, none⟩) (.inl rfl) _).setCell (p := ⟨Z, 2, none⟩) (.inl rfl) _).setCell (p := ⟨Z, 3, none⟩) (.inl rfl) _
        rw [← hw]
        have HM := Lib.hid (HM.out.mod hmz (fun j hj e => by have := HXR.out; have := HZ.out; omega))
        have HMo := Lib.hid (HMo.out.trans2 hmz (fun j hj e => by have := HZ.out; omega))
        have x1 : v4.cell? ⟨X, 0, none⟩ = some (.pointer (some ⟨R, 0, none⟩)) := (hmz.cell (p := ⟨X, 0, none⟩) (World.block_lt_of_cell? _ _ hHeld) (by have := HXR.out; have := HZ.out; show X ≠ Z; omega)).trans hHeld
        clear hw hmz y0 y1 y2 y3 f0 f1 f2 f3 hZl
        refine hK.out _ _ ?_ (fun hHeld' => ?_)
        · exact x1
        clear x1
        clear hK K' hHeld
        have hHeld := hHeld'
        clear hHeld'
        try simp only [Act.put, List.getElem_toArray, List.getElem_cons_zero, List.getElem_cons_succ, List.setIfInBounds_toArray, List.set_cons_zero, List.set_cons_succ]
        refine wpAnyZ_done (by kernel_rfl) ?_ _
        go_wp2_with fail
        go_meet
        exact ⟨Z, rfl, HO, HM, HMo, HZ⟩
    · obtain ⟨v1, hw⟩ : ∃ W, W = wd.alloc (.cells #[.int .i64 0, .string ⟨#[]⟩, .int .i64 0, .int .i64 0] 90) := ⟨_, rfl⟩
      go_simp
      rw [← hw]
      have hb : Below wd.heap.size wd v1 := by rw [hw]; exact (Below.refl _ _).alloc (Nat.le_refl _) _
      obtain ⟨Z, hZ⟩ : ∃ Z, Z = wd.heap.size := ⟨_, rfl⟩
      have HO : Hid (Own v1 Z 90 4 (tokF ⟨0, ⟨#[]⟩, 0, 0⟩)) := Lib.hid (by rw [hw, hZ]; exact own_tok _ 0 0 0 ⟨#[]⟩ _ rfl)
      have HZ : Hid (w0.heap.size ≤ Z) := Lib.hid (by rw [hZ]; exact HMo.out.size)
      try rw [show wd.drew.heap.size = wd.heap.size from rfl]
      rw [← hZ]
      have HM := Lib.hid (HM.out.keep hb)
      have x1 : v1.cell? ⟨X, 0, none⟩ = some (.pointer (some ⟨R, 0, none⟩)) := (hb.cell (p := ⟨X, 0, none⟩) (World.block_lt_of_cell? _ _ hHeld)).trans hHeld
      have HMo := Lib.hid (HMo.out.trans (modB hb))

      clear hw hb hZ
      refine hK.out _ _ ?_ (fun hHeld' => ?_)
      · exact x1
      clear x1
      clear hK K' hHeld
      have hHeld := hHeld'
      clear hHeld'
      try simp only [Act.put, List.getElem_toArray, List.getElem_cons_zero, List.getElem_cons_succ, List.setIfInBounds_toArray, List.set_cons_zero, List.set_cons_succ]
      refine wpAnyZ_one (i := 1) (by kernel_rfl) rfl (fun K' hK => ?_)
      go_simp
      refine (paWordF_any (.func (.func 91) #[] #[]) _ 91 rfl).mono ?_
      rintro e v2 ⟨rfl, hw⟩
      have hb : Below v1.heap.size v1 v2 := by rw [hw]; exact (Below.refl _ _).alloc (Nat.le_refl _) _
      obtain ⟨B2, hB⟩ : ∃ B, B = v1.heap.size := ⟨_, rfl⟩
      have HCB2 : Hid (v2.cell? ⟨B2, 0, none⟩ = some (.func (.func 91) #[] #[]) ∧ B2 < v2.heap.size) := Lib.hid (by rw [hw, hB]; exact ⟨by go_simp, by simp⟩)
      have HM := Lib.hid (HM.out.keep hb)
      have x1 : v2.cell? ⟨X, 0, none⟩ = some (.pointer (some ⟨R, 0, none⟩)) := (hb.cell (p := ⟨X, 0, none⟩) (World.block_lt_of_cell? _ _ hHeld)).trans hHeld
      have HMo := Lib.hid (HMo.out.trans (modB hb))
      have HO := Lib.hid (HO.out.keep hb HO.out.lt)
      try rw [show v1.drew.heap.size = v1.heap.size from rfl]
      rw [← hB]
      clear hw hb hB
      refine hK.out _ _ ?_ (fun hHeld' => ?_)
      · exact x1
      clear x1
      clear hK K' hHeld
      have hHeld := hHeld'
      clear hHeld'
      try simp only [Act.put, List.getElem_toArray, List.getElem_cons_zero, List.getElem_cons_succ, List.setIfInBounds_toArray, List.set_cons_zero, List.set_cons_succ]
      refine wpAnyZ_one (i := 2) (by kernel_rfl) rfl (fun K' hK => ?_)
      go_simp
      refine (paTake_any R aT nT cT toks len p 112 (.pointer (some ⟨B2, 0, none⟩)) t v2 HM HTt.out (by rw [HKt.out]; omega) cf_word1 (Lib.hid (fun W hbW => by
        refine paWordF1_ok t B2 91 true W HKt.out (Nat.lt_of_lt_of_le HCB2.out.2 hbW.size) ((hbW.cell (p := ⟨B2, 0, none⟩) HCB2.out.2).trans HCB2.out.1) cf_itemF1 (Lib.hid (fun W => ?_))
        exact (paItemF1_any t.text W).mono (fun e w' h => ⟨by rw [h.1, kindD_eq]; exact congrArg (fun b => Ending.returned (Value.bool b)) (bne_iff_ne.2 HKD.out), by rw [h.2]; exact Below.refl _ _⟩)))).mono ?_
      rintro e v3 ⟨rfl, hM, hmo⟩
      have HM := Lib.hid hM
      have x1 : v3.cell? ⟨X, 0, none⟩ = some (.pointer (some ⟨R, 0, none⟩)) := (hmo.cell (p := ⟨X, 0, none⟩) (World.block_lt_of_cell? _ _ hHeld) (by show X ≠ R; have := HXR.out; omega)).trans hHeld
      have HMo := Lib.hid (HMo.out.trans hmo)
      have HO := Lib.hid (HO.out.mod hmo (by have := HXR.out; have := HZ.out; omega))
      refine hK.out _ _ ?_ (fun hHeld' => ?_)
      · exact x1
      clear x1 hM hmo
      clear hK K' hHeld
      have hHeld := hHeld'
      clear hHeld'
      try simp only [Act.put, List.getElem_toArray, List.getElem_cons_zero, List.getElem_cons_succ, List.setIfInBounds_toArray, List.set_cons_zero, List.set_cons_succ]
      refine wpAnyZ_one (i := 4) (by kernel_rfl) rfl (fun K' hK => ?_)
      have y0 : v3.cell? ⟨Z, 0, none⟩ = some (.int .i64 0) := HO.out.cell (i := 0) (by omega)
      have y1 : v3.cell? ⟨Z, 1, none⟩ = some (.string ⟨#[]⟩) := HO.out.cell (i := 1) (by omega)
      have y2 : v3.cell? ⟨Z, 2, none⟩ = some (.int .i64 0) := HO.out.cell (i := 2) (by omega)
      have y3 : v3.cell? ⟨Z, 3, none⟩ = some (.int .i64 (0 : Nat)) := HO.out.cell (i := 3) (by omega)
      have f0 := HO.out.frozen 0
      have f1 := HO.out.frozen 1
      have f2 := HO.out.frozen 2
      have f3 := HO.out.frozen 3
      have hZl : Z < v3.heap.size := HO.out.lt
      rw [show tokV t = .agg #[.int .i64 t.kind, .string t.text, .int .i64 t.n, .int .i64 (t.pos : Nat)] from rfl]
      go_simp
      obtain ⟨v4, hw⟩ : ∃ W, W = (((v3.setCell ⟨Z, 0, none⟩ (.int .i64 t.kind)).setCell ⟨Z, 1, none⟩ (.string t.text)).setCell ⟨Z, 2, none⟩ (.int .i64 t.n)).setCell ⟨Z, 3, none⟩ (.int .i64 (t.pos : Nat)) := ⟨_, rfl⟩
      have HO : Hid (Own v4 Z 90 4 (tokF t)) := Lib.hid (by rw [hw]; exact HO.out.setTok t.kind t.n t.pos t.text)
      have hmz : Mod (fun j => j = Z) v3 v4 := by rw [hw]; exact ((((show Mod (fun j => j = Z) v3 v3 from Mod.refl _ v3).setCell (p := ⟨Z, 0, none⟩) (.inl rfl) _).setCell (p := ⟨Z, 1, none⟩) (.inl rfl) _).setCell (p := ⟨Z, 2, none⟩) (.inl rfl) _).setCell (p := ⟨Z, 3, none⟩) (.inl rfl) _
      rw [← hw]
      have HM := Lib.hid (HM.out.mod hmz (fun j hj e => by have := HXR.out; have := HZ.out; omega))
      have HMo := Lib.hid (HMo.out.trans2 hmz (fun j hj e => by have := HZ.out; omega))
      have x1 : v4.cell? ⟨X, 0, none⟩ = some (.pointer (some ⟨R, 0, none⟩)) := (hmz.cell (p := ⟨X, 0, none⟩) (World.block_lt_of_cell? _ _ hHeld) (by have := HXR.out; have := HZ.out; show X ≠ Z; omega)).trans hHeld
      clear hw hmz y0 y1 y2 y3 f0 f1 f2 f3 hZl
      refine hK.out _ _ ?_ (fun hHeld' => ?_)
      · exact x1
      clear x1
      clear hK K' hHeld
      have hHeld := hHeld'
      clear hHeld'
      try simp only [Act.put, List.getElem_toArray, List.getElem_cons_zero, List.getElem_cons_succ, List.setIfInBounds_toArray, List.set_cons_zero, List.set_cons_succ]
      refine wpAnyZ_done (by kernel_rfl) ?_ _
      go_wp2_with fail
      go_meet
      exact ⟨Z, rfl, HO, HM, HMo, HZ⟩
  case rest =>
    clear HM x0 hXl
    obtain ⟨Z, rfl, HO, HM, HMo0, HZ⟩ := hcut
    have x0 : wc.cell? ⟨X, 0, none⟩ = some (.pointer (some ⟨R, 0, none⟩)) := (HMo0.out.cell (p := ⟨X, 0, none⟩) HX0.out.lt (by have := HXR.out; show X ≠ R; omega)).trans (HX0.out.cell (i := 0) (by omega))
    have hXl : X < wc.heap.size := World.block_lt_of_cell? _ _ x0
    go_upto_region 2 with (fail)
    refine region_z (S := fun w' => w'.cell? ⟨X, 0, none⟩ = some (.pointer (some ⟨R, 0, none⟩))) [] (by kernel_rfl) x0 (fun hHeld => ?_)
    obtain ⟨wd, hwd⟩ : ∃ wd, wd = wc.drew := ⟨_, rfl⟩
    rw [← hwd] at hHeld ⊢
    have HM : Hid (PaM wd R aT nT cT toks len (p + 1)) := Lib.hid (by rw [hwd]; exact ⟨HM.out.ow, HM.out.tk, HM.out.ln, HM.out.ne⟩)
    have HMo : Hid (Mod (fun j => j = R) wc wd) := Lib.hid (by rw [hwd]; exact (Mod.refl _ wc).drew)
    clear hwd
    have hfd : ∀ W : World, (Instr.field 90 (tokV u) 1).run Tryz.prog W = .ok (.string u.text) W := fun W => by with_unfolding_all rfl
    refine wpAnyZ_take (i := 0) (v := .pointer (some ⟨R, 0, none⟩)) [2, 3, 4] rfl (by kernel_rfl) (by kernel_rfl) (by kernel_rfl) (by kernel_rfl) (fun _ _ _ h => h) (Or.inl ⟨by kernel_rfl, fun w' hSw => ?_⟩) hHeld ?_
    · have s0 := hSw
      clear hHeld hSw
      go_simp
    simp only [Act.put, List.getElem_toArray, List.getElem_cons_zero, List.getElem_cons_succ, List.setIfInBounds_toArray, List.set_cons_zero, List.set_cons_succ]
    refine wpAnyZ_one (i := 1) (by kernel_rfl) rfl (fun K' hK => ?_)
    go_simp
    refine (paWordF_any (.func (.func 93) #[] #[]) _ 93 rfl).mono ?_
    rintro e v1 ⟨rfl, hw⟩
    have hb : Below wd.heap.size wd v1 := by rw [hw]; exact (Below.refl _ _).alloc (Nat.le_refl _) _
    obtain ⟨B1, hB⟩ : ∃ B, B = wd.heap.size := ⟨_, rfl⟩
    have HCB1 : Hid (v1.cell? ⟨B1, 0, none⟩ = some (.func (.func 93) #[] #[]) ∧ B1 < v1.heap.size) := Lib.hid (by rw [hw, hB]; exact ⟨by go_simp, by simp⟩)
    have HM := Lib.hid (HM.out.keep hb)
    have x1 : v1.cell? ⟨X, 0, none⟩ = some (.pointer (some ⟨R, 0, none⟩)) := (hb.cell (p := ⟨X, 0, none⟩) (World.block_lt_of_cell? _ _ hHeld)).trans hHeld
    have HMo := Lib.hid (HMo.out.trans (modB hb))
    try rw [show wd.drew.heap.size = wd.heap.size from rfl]
    rw [← hB]
    clear hw hb hB
    refine hK.out _ _ ?_ (fun hHeld' => ?_)
    · exact x1
    clear x1
    clear hK K' hHeld
    have hHeld := hHeld'
    clear hHeld'
    try simp only [Act.put, List.getElem_toArray, List.getElem_cons_zero, List.getElem_cons_succ, List.setIfInBounds_toArray, List.set_cons_zero, List.set_cons_succ]
    refine wpAnyZ_one (i := 2) (by kernel_rfl) rfl (fun K' hK => ?_)
    go_simp
    refine (paTake_any R aT nT cT toks len (p + 1) 112 (.pointer (some ⟨B1, 0, none⟩)) u v1 HM HTu.out (by rw [HKu.out]; omega) cf_word1 (Lib.hid (fun W hbW => by
      refine paWordF1_ok u B1 93 true W HKu.out (Nat.lt_of_lt_of_le HCB1.out.2 hbW.size) ((hbW.cell (p := ⟨B1, 0, none⟩) HCB1.out.2).trans HCB1.out.1) cf_notKey (Lib.hid (fun W => ?_))
      exact (paNotKey_any u.text W).mono (fun e w' h => ⟨by rw [h.1, inD_eq]; exact congrArg (fun b => Ending.returned (Value.bool b)) HNK.out, by rw [h.2]; exact Below.refl _ _⟩)))).mono ?_
    rintro e v2 ⟨rfl, hM, hmo⟩
    have HM := Lib.hid hM
    have x1 : v2.cell? ⟨X, 0, none⟩ = some (.pointer (some ⟨R, 0, none⟩)) := (hmo.cell (p := ⟨X, 0, none⟩) (World.block_lt_of_cell? _ _ hHeld) (by show X ≠ R; have := HXR.out; omega)).trans hHeld
    have HMo := Lib.hid (HMo.out.trans hmo)
    refine hK.out _ _ ?_ (fun hHeld' => ?_)
    · exact x1
    clear x1 hM hmo
    clear hK K' hHeld
    have hHeld := hHeld'
    clear hHeld'
    try simp only [Act.put, List.getElem_toArray, List.getElem_cons_zero, List.getElem_cons_succ, List.setIfInBounds_toArray, List.set_cons_zero, List.set_cons_succ]
    refine wpAnyZ_take (i := 3) (v := .string u.text) [4] rfl (by kernel_rfl) (by kernel_rfl) (by kernel_rfl) (by kernel_rfl) (fun _ _ _ h => h) (Or.inl ⟨by kernel_rfl, fun w' hSw => ?_⟩) hHeld ?_
    · have s0 := hSw
      clear hHeld hSw
      go_simp
    simp only [Act.put, List.getElem_toArray, List.getElem_cons_zero, List.getElem_cons_succ, List.setIfInBounds_toArray, List.set_cons_zero, List.set_cons_succ]
    refine wpAnyZ_take (i := 4) (v := .string u.text) [] rfl (by kernel_rfl) (by kernel_rfl) (by kernel_rfl) (by kernel_rfl) (fun _ _ _ h => h) (Or.inl ⟨by kernel_rfl, fun w' hSw => ?_⟩) hHeld ?_
    · have s0 := hSw
      clear hHeld hSw
      go_simp
    simp only [Act.put, List.getElem_toArray, List.getElem_cons_zero, List.getElem_cons_succ, List.setIfInBounds_toArray, List.set_cons_zero, List.set_cons_succ]
    refine wpAnyZ_done (by kernel_rfl) ?_ _
    go_step
    go_step
    have HMo2 : Hid (Mod (fun j => j = R) w0 v2) := Lib.hid (HMo0.out.trans HMo.out)
    have HO2 := Lib.hid (HO.out.mod HMo.out (by have := HXR.out; have := HZ.out; omega))
    have HX2 := Lib.hid (HX0.out.mod HMo2.out (by have := HXR.out; omega))
    have HN2 := Lib.hid (HN0.out.mod HMo2.out (by have := HXR.out; omega))
    clear HO HMo0 HMo x0 hXl
    obtain ⟨tk, tx, tn, tp⟩ := t
    have y0 : v2.cell? ⟨Z, 0, none⟩ = some (.int .i64 tk) := HO2.out.cell (i := 0) (by omega)
    have y1 : v2.cell? ⟨Z, 1, none⟩ = some (.string tx) := HO2.out.cell (i := 1) (by omega)
    have y2 : v2.cell? ⟨Z, 2, none⟩ = some (.int .i64 tn) := HO2.out.cell (i := 2) (by omega)
    have y3 : v2.cell? ⟨Z, 3, none⟩ = some (.int .i64 (tp : Nat)) := HO2.out.cell (i := 3) (by omega)
    have hZl : Z < v2.heap.size := HO2.out.lt
    have x0 : v2.cell? ⟨X, 0, none⟩ = some (.pointer (some ⟨R, 0, none⟩)) := HX2.out.cell (i := 0) (by omega)
    have hXl : X < v2.heap.size := HX2.out.lt
    go_wp2_with fail
    refine (paKindN_any tx v2).mono ?_
    rintro e v3 ⟨rfl, hv3⟩
    rw [hv3, kindD_eq, show kindD tx = 7 from HKDE.out.symm]
    clear hv3 v3
    go_wp2_with fail
    obtain ⟨w8, hw8⟩ : ∃ W, W = v2.alloc (.cells #[.func (.func 96) #[.pointer (some ⟨R, 0, none⟩)] #[], .func (.func 94) #[] #[.pointer (some ⟨X, 0, none⟩)], .func (.func 97) #[.pointer (some ⟨R, 0, none⟩)] #[]] 91) := ⟨_, rfl⟩
    rw [← hw8]
    have hb8 : Below v2.heap.size v2 w8 := by rw [hw8]; exact (Below.refl _ _).alloc (Nat.le_refl _) _
    obtain ⟨F0, hF0⟩ : ∃ F, F = v2.heap.size := ⟨_, rfl⟩
    have HF8 : Hid (w8.cell? ⟨F0, 0, none⟩ = some (.func (.func 96) #[.pointer (some ⟨R, 0, none⟩)] #[]) ∧ w8.cell? ⟨F0, 1, none⟩ = some (.func (.func 94) #[] #[.pointer (some ⟨X, 0, none⟩)]) ∧ w8.cell? ⟨F0, 2, none⟩ = some (.func (.func 97) #[.pointer (some ⟨R, 0, none⟩)] #[])) := Lib.hid (by rw [hw8, hF0]; exact ⟨by go_simp, by go_simp, by go_simp⟩)
    rw [← hF0]
    have HM8 := Lib.hid (HM.out.keep hb8)
    have HX8 := Lib.hid (HX2.out.keep hb8 HX2.out.lt)
    have HN8 := Lib.hid (HN2.out.keep hb8 HN2.out.lt)
    have HMo8 : Hid (Mod (fun j => j = R) w0 w8) := Lib.hid (HMo2.out.trans (modB hb8))
    have HFX : Hid (X + 1 < F0 ∧ F0 < w8.heap.size) := Lib.hid ⟨by rw [hF0]; exact HN2.out.lt, by rw [hw8, hF0]; simp⟩
    clear hw8 hb8 hF0 HM HX2 HN2 HO2 HMo2 y0 y1 y2 y3 hZl x0 hXl
    have HCA : Hid (∀ W, Mod (fun j => j = R) w8 W → PaM W R aT nT cT toks len (p + 2) → Calls Tryz.prog 96 (#[.pointer (some ⟨R, 0, none⟩)] ++ #[]) W (KidPost (okNd okLf) W R aT nT cT toks len ap.2 ap.1)) := Lib.hid (fun W hmW hPW => by
      have h := paAttrs_ok R aT nT cT toks len (p + 2) W (Lib.hid hPW) HP2.out
      rw [← HAP.out] at h
      exact h)
    have HCB : Hid (∀ W, Mod (fun j => j = R) w8 W → PaM W R aT nT cT toks len ap.2 → Calls Tryz.prog 94 (#[] ++ #[.pointer (some ⟨X, 0, none⟩)]) W (KidPost (okNd okLf) W R aT nT cT toks len (ap.2 + 1) [])) := Lib.hid (fun W hmW hPW => by
      exact paItemF2_ok (okNd okLf) R X aT nT cT toks len ap.2 W (Lib.hid hPW) ((hmW.cell (p := ⟨X, 0, none⟩) HX8.out.lt (by have := HXR.out; show X ≠ R; omega)).trans (HX8.out.cell (i := 0) (by omega))) (by have := HXR.out; omega) HPUN.out)
    have HCC : Hid (∀ W, Mod (fun j => j = R) w8 W → PaM W R aT nT cT toks len (ap.2 + 1) → Calls Tryz.prog 97 (#[.pointer (some ⟨R, 0, none⟩)] ++ #[]) W (KidPost (okNd okLf) W R aT nT cT toks len q ax)) := Lib.hid (fun W hmW hPW => by
      exact paArticles_ok R aT nT cT toks len (toks.length - (ap.2 + 1)) (ap.2 + 1) q ax W (Lib.hid hPW) HARTS.out (by have := HASL.out; omega))
    refine (paNode_three (okNd_firm okLf_firm) 96 94 97 _ _ _ _ _ _ R F0 aT nT cT toks len (p + 2) ap.2 (ap.2 + 1) q ⟨tk, tx, tn, tp⟩ 2 u.text 7 ap.1 [] ax w8 HM8 HF8.out.1 HF8.out.2.1 HF8.out.2.2 (by have := HFX.out; have := HXR.out; omega) (by have := HAL.out; have := HASL.out; simp; omega) cf_attrs cf_paItemF2 cf_articles HCA HCB HCC).mono ?_
    rintro e w9 ⟨h, rfl, hok, hM9, hmo9⟩
    rw [List.append_nil] at hok
    have HM9 := Lib.hid hM9
    have HMo9 : Hid (Mod (fun j => j = R) w0 w9) := Lib.hid (HMo8.out.trans hmo9)
    have HN9 := Lib.hid (HN8.out.mod hmo9 (by have := HXR.out; omega))
    have HS9 : Hid (w8.heap.size ≤ w9.heap.size) := Lib.hid hmo9.size
    have HOK := Lib.hid hok
    obtain ⟨hkk, hna, hnn, hpo, ha, hln, hc⟩ := h
    clear hM9 hmo9 hok HM8 HX8 HN8 HMo8 HCA HCB HCC
    have z0 : w9.cell? ⟨X + 1, 0, none⟩ = some (.int .i64 0) := HN9.out.cell (i := 0) (by omega)
    have z1 : w9.cell? ⟨X + 1, 1, none⟩ = some (.string ⟨#[]⟩) := HN9.out.cell (i := 1) (by omega)
    have z2 : w9.cell? ⟨X + 1, 2, none⟩ = some (.int .i64 0) := HN9.out.cell (i := 2) (by omega)
    have z3 : w9.cell? ⟨X + 1, 3, none⟩ = some (.int .i64 (0 : Nat)) := HN9.out.cell (i := 3) (by omega)
    have z4 : w9.cell? ⟨X + 1, 4, none⟩ = some (.slice none 0 0) := HN9.out.cell (i := 4) (by omega)
    have f0 := HN9.out.frozen 0
    have f1 := HN9.out.frozen 1
    have f2 := HN9.out.frozen 2
    have f3 := HN9.out.frozen 3
    have f4 := HN9.out.frozen 4
    have hNl : X + 1 < w9.heap.size := HN9.out.lt
    rw [show nhV ⟨hkk, hna, hnn, hpo, ha, hln, hc⟩ = .agg #[.int .i64 hkk, .string hna, .int .i64 hnn, .int .i64 (hpo : Nat), .slice ha hln hc] from rfl]
    go_wp2_with fail
    have hoX := nodeF_all HN9.out hkk hnn hpo hna (.slice ha hln hc)
    refine bodyPost_ret (results_c1T (a := 2) (ty := 56) (b := X + 1) (by kernel_rfl) rfl (node_load hoX)) rfl ?_
    have hXM : Mod (fun j => j = X + 1) w9 (((((w9.setCell ⟨X + 1, 0, none⟩ (.int .i64 hkk)).setCell ⟨X + 1, 1, none⟩ (.string hna)).setCell ⟨X + 1, 2, none⟩ (.int .i64 hnn)).setCell ⟨X + 1, 3, none⟩ (.int .i64 (hpo : Nat))).setCell ⟨X + 1, 4, none⟩ (.slice ha hln hc)) := (((((show Mod (fun j => j = X + 1) w9 w9 from Mod.refl _ w9).setCell (p := ⟨X + 1, 0, none⟩) (.inl rfl) _).setCell (p := ⟨X + 1, 1, none⟩) (.inl rfl) _).setCell (p := ⟨X + 1, 2, none⟩) (.inl rfl) _).setCell (p := ⟨X + 1, 3, none⟩) (.inl rfl) _).setCell (p := ⟨X + 1, 4, none⟩) (.inl rfl) _
    exact ⟨_, rfl, okNd_wide ((okNd_firm (okNd_firm okLf_firm)).calm HOK.out (Calm.of hXM (fun j hj _ e => by have := HFX.out; omega))) (by have := HFX.out; have := HXR.out; omega) hXM.size, HM9.out.mod hXM (fun j hj e => by have := HXR.out; omega), (HMw.out.trans HMo9.out).trans2 hXM (fun j hj e => by have := HXR.out; omega)⟩
theorem paItemF_any (R : Nat) (aT : Option Addr) (nT cT : Nat) (toks : List Tok) (len p q : Nat) (x : Nd (Nd Lf)) (w : World) (HM : Hid (PaM w R aT nT cT toks len p)) (hit : itemP toks p = some (x, q)) :
    Calls Tryz.prog 64 #[.pointer (some ⟨R, 0, none⟩)] w fun e w' => ∃ h : NH, e = .returned (nhV h) ∧ okNd (okNd okLf) w' w.heap.size w'.heap.size h x ∧ PaM w' R aT nT cT toks len q ∧ Mod (fun j => j = R) w w' := by
  by_cases h7 : x.n = 7
  · exact paItemF7_ok R aT nT cT toks len p q x w HM hit h7
  · exact paItemF_ok R aT nT cT toks len p q x w HM hit h7
end Go.Proofs.YtoekpdnpncgeeaaGreat
/-
The tariff's source: tokens, tree, and what Parse returns.
-/
namespace Go.Proofs.YtoekpdnpncgeeaaGreat
open Go.RowKit
set_option linter.unusedVariables false
set_option linter.unusedSimpArgs false
def srcT : ByteArray := ⟨#[116, 97, 114, 105, 102, 102, 32, 116, 32, 123, 32, 116, 105, 109, 101, 32, 49, 48, 48, 32, 112, 101, 114, 32, 49, 32, 102, 114, 101, 101, 32, 49, 48, 59, 32, 125]⟩
def toksT : List Tok := [⟨1, ⟨#[116, 97, 114, 105, 102, 102]⟩, 0, 0⟩, ⟨1, ⟨#[116]⟩, 0, 7⟩, ⟨3, ⟨#[123]⟩, 0, 9⟩, ⟨1, ⟨#[116, 105, 109, 101]⟩, 0, 11⟩, ⟨2, ⟨#[]⟩, 100, 16⟩, ⟨1, ⟨#[112, 101, 114]⟩, 0, 20⟩, ⟨2, ⟨#[]⟩, 1, 24⟩, ⟨1, ⟨#[102, 114, 101, 101]⟩, 0, 26⟩, ⟨2, ⟨#[]⟩, 10, 31⟩, ⟨3, ⟨#[59]⟩, 0, 33⟩, ⟨3, ⟨#[125]⟩, 0, 35⟩]
set_option maxRecDepth 100000 in
theorem lexT : lexGo srcT 40 0 = some toksT := by kernel_rfl
def artT : Nd Lf := ⟨4, ⟨#[116, 105, 109, 101]⟩, 0, 11, [⟨6, ⟨#[]⟩, 100, 16⟩, ⟨5, ⟨#[112, 101, 114]⟩, 0, 20⟩, ⟨6, ⟨#[]⟩, 1, 24⟩, ⟨5, ⟨#[102, 114, 101, 101]⟩, 0, 26⟩, ⟨6, ⟨#[]⟩, 10, 31⟩]⟩
def itemT : Nd (Nd Lf) := ⟨2, ⟨#[116]⟩, 7, 0, [artT]⟩
def treeT : List (Nd (Nd Lf)) := [itemT]
def rootT : Nd (Nd (Nd Lf)) := ⟨1, ⟨#[]⟩, 0, 0, treeT⟩
set_option maxRecDepth 100000 in
theorem itemsT : itemsP toksT 12 0 = some treeT := by kernel_rfl
set_option maxRecDepth 100000 in
theorem szT : decide (szR rootT ≤ 1500) = true := by kernel_rfl
theorem sizeT : decide (srcT.size ≤ 8000 ∧ toksT.length ≤ 1900) = true := by kernel_rfl
theorem okName1T {b : UInt8} (h : 97 ≤ b.toNat ∧ b.toNat ≤ 122) (hk : ¬ [b] ∈ keyL) : okNameB keyL ⟨#[b]⟩ = true := by
  rw [okNameB_iff]
  refine ⟨⟨Nat.le_refl _, (by show 1 ≤ 12; omega), h, fun i h0 h1 => ?_⟩, ?_⟩
  · have h1' : i < 1 := h1
    omega
  · rw [ByteArray.toList_eq]
    exact hk
theorem okNameT : okNameB keyL ⟨#[116]⟩ = true := okName1T (by decide) (by decide)
def vfT (x : Lf) : Bool := (x.kind == 5 && x.n == 0 && inD keyL x.name && inD wordL x.name && decide (x.name.size ≤ 12)) || (x.kind == 6 && x.name.size == 0 && decide (0 ≤ x.n ∧ x.n ≤ 1000000))
theorem vfT_ok {x : Lf} (h : vfT x = true) : VfOk true x := by
  unfold vfT at h
  simp only [Bool.or_eq_true, Bool.and_eq_true, beq_iff_eq, decide_eq_true_eq] at h
  rcases h with ⟨⟨⟨⟨h1, h2⟩, h3⟩, h4⟩, h5⟩ | ⟨⟨h1, h2⟩, h3⟩
  · refine .inl ⟨h1, h2, by omega, .inr ⟨rfl, okNameB_no (fun h => h.2 ?_), by rw [inD_eq]; exact h4⟩⟩
    unfold inD at h3
    exact List.contains_iff_mem.1 h3
  · exact .inr ⟨h1, ByteArray.ext (by
      have h5 : x.name.data.size = 0 := h2
      exact Array.eq_empty_of_size_eq_zero h5), h3⟩
set_option maxRecDepth 100000 in
theorem artT_vals : artT.kids.all vfT = true := by kernel_rfl
theorem vrT_ok : VrOk rootT := by
  refine ⟨rfl, rfl, rfl, by decide, fun y hy => ?_⟩
  have hy : y = itemT := by simpa [rootT, treeT] using hy
  subst hy
  refine ⟨rfl, by decide, by decide, by decide, okNameT, true, fun _ => rfl, fun z hz => ?_⟩
  have hz : z = artT := by simpa [itemT] using hz
  subst hz
  exact ⟨rfl, .inr ⟨rfl, rfl, by rw [inD_eq]; kernel_rfl⟩, fun v hv => vfT_ok (List.all_eq_true.1 artT_vals v hv)⟩
set_option maxRecDepth 100000 in
theorem parseT (w : World) : Calls Tryz.prog 15 #[.string srcT] w (PrsPost w rootT) :=
  paParse_ok srcT 40 toksT 12 treeT w (of_decide_eq_true sizeT).1 lexT (of_decide_eq_true sizeT).2 itemsT (of_decide_eq_true szT) (Lib.hid (fun R aT nT cT p q x W hit hM =>
    paItemF_any R aT nT cT toksT srcT.size p q x W (Lib.hid hM) hit))
end Go.Proofs.YtoekpdnpncgeeaaGreat
