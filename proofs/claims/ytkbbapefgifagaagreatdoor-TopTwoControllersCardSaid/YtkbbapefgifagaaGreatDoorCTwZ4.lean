/-
Two controllers: decide.
-/
import Derived.Test.YtkbbapefgifagaaGreatDoorCTwZ3
namespace Go.Proofs.YtkbbapefgifagaaGreatDoor
open Go.RowKit
set_option linter.unusedVariables false
set_option linter.unusedSimpArgs false
theorem hfL_len (n : Nat) (x : Hf) (A : HfAd) : (hfL n x A).length = 15 := rfl
theorem exL_ok {tick : Int} {ls : List Lse} (h : LsOk ls) : LsOk (exL tick ls) :=
  ⟨Nat.le_trans (List.length_filter_le _ _) h.len, fun x hx => h.ok x (List.mem_filter.1 hx).1, List.Pairwise.filter _ h.chain⟩
theorem exL_mem {tick : Int} {ls : List Lse} {y : Lse} (h : y ∈ exL tick ls) : y ∈ ls := (List.mem_filter.1 h).1
/-- A slice literal without elements. -/
theorem DecOk.none {n : Nat} {tick : Int} {r : Nat} {x : Hf} (h : HfOk n tick r x) : DecOk n tick x (exL tick x.ls) x.rs x.num :=
  ⟨exL_ok h.ls, fun y hy => h.fr y (exL_mem hy), fun y hy => h.cg y (exL_mem hy), fun y hy => h.nu y (exL_mem hy), h.n1, by omega, fun i hi => by have := h.rm i hi; omega, by rw [alvS_ex]; exact h.al⟩
theorem GrOk.start {n : Nat} {tick : Int} {r : Nat} {x : Hf} (h : HfOk n tick r x) (v : Nat → Int) : GrOk n tick x.num x.num v (exL tick x.ls) 0 (exL tick x.ls) :=
  ⟨exL_ok h.ls, fun y hy => h.nu y (exL_mem hy), Int.le_refl _, by omega, [], by simp, fun y hy => by cases hy⟩
theorem GrOk.fin {n : Nat} {tick num : Int} {r : Nat} {x : Hf} (h : HfOk n tick r x) {v : Nat → Int} {j : Nat} {ls : List Lse} {rs : Nat → Rmp} (g : GrOk n tick num x.num v (exL tick x.ls) j ls) (hj : j ≤ 4) (hr : ∀ i, i < n → (rs i).snc ≤ (x.rs i).snc + 1)
    (hs : sumN (fun i => max (alvF (exL tick (exL tick x.ls)) i) (v i)) n ≤ max x.sh.hav (sumN (alvF (exL tick (exL tick x.ls))) n)) : DecOk n tick x ls rs num := by
  have hal : sumN (alvF (exL tick (exL tick x.ls))) n ≤ x.sh.hav := by
    have := h.al
    have e := alvS_ex (n := n) (t := tick) x.ls
    unfold alvS at e this
    rw [e]; exact this
  obtain ⟨gg, hg, hx⟩ := g.g
  have hfr : ∀ y ∈ ls, y.frm ≤ tick := by
    intro y hy
    rw [hg] at hy
    rcases List.mem_append.1 hy with hy | hy
    · exact h.fr y (exL_mem hy)
    · exact Int.le_of_eq (hx y hy).1
  refine ⟨g.lo, hfr, ?_, g.nu, by have := g.n1; have := h.n1; omega, by have := g.n2; omega, fun i hi => by have := hr i hi; have := h.rm i hi; omega, ?_⟩
  · intro y hy
    rw [hg] at hy
    rcases List.mem_append.1 hy with hy | hy
    · exact h.cg y (exL_mem hy)
    · obtain ⟨_, i, hi, hc, _⟩ := hx y hy
      omega
  · rw [hg]
    exact alvS_more (v := v) (fun y hy => by obtain ⟨_, i, hi, hc, ha⟩ := hx y hy; exact ⟨i, hc, ha⟩) (by omega)
theorem GrOk.fr {n : Nat} {tick num num0 : Int} {v : Nat → Int} {l : List Lse} {j : Nat} {ls : List Lse} (g : GrOk n tick num num0 v l j ls) (hl : ∀ y ∈ l, y.frm ≤ tick) : ∀ y ∈ ls, y.frm ≤ tick := by
  intro y hy
  obtain ⟨gg, hg, hx⟩ := g.g
  rw [hg] at hy
  rcases List.mem_append.1 hy with hy | hy
  · exact hl y hy
  · exact Int.le_of_eq (hx y hy).1
theorem hapT_keep {w w' : World} (h : hapT w) (hb : Below w.heap.size w w') : hapT w' := fun i hi => (hb.cell (zb (h i hi))).trans (h i hi)
theorem hapT_mod {P : Nat → Prop} {w w' : World} (h : hapT w) (hm : Mod P w w') (h1 : ¬ P 1) : hapT w' := fun i hi => (hm.cell (zb (h i hi)) h1).trans (h i hi)
/-- Grant, in one form. -/
theorem leGrant_two (aL : Option Addr) (nL cL : Nat) (ls : List Lse) (x : Lse) (w : World) (HX : Hid (Rd 5 encLse w aL ls)) (HN : Hid (ls.length = nL)) (HO : Hid (LsOk ls)) (HOX : Hid (LseOk x)) (HF : Hid (∀ y ∈ ls, after y x)) : Calls Tryz.prog 25 #[.slice aL nL cL, .agg #[.int .i64 x.num, .int .i64 x.chg, .int .i64 x.amp, .int .i64 x.frm, .int .i64 x.tck]] w fun e w' =>
    ∃ (er : Int) (aG : Option Addr) (nG cG : Nat), e = .returned (.tuple #[.slice aG nG cG, .int .i64 er]) ∧ ((er = 0 ∧ ls.length < 64 ∧ nG = (ls ++ [x]).length ∧ Rd 5 encLse w' aG (ls ++ [x]) ∧ (∀ p, aG = some p → w.heap.size ≤ p.block)) ∨ er = 10) ∧ Below w.heap.size w w' := by
  refine (leGrant_ok aL nL cL ls x w HX HN HO HOX (Lib.hid (fun y hy => HF.out y (List.mem_of_getElem? hy)))).mono ?_
  rintro e w' (⟨hl, A, c, rfl, hr, hf, hb⟩ | ⟨hl, rfl, hb⟩)
  · exact ⟨0, A, _, c, rfl, .inl ⟨rfl, hl, by rw [List.length_append, HN.out]; rfl, hr, hf⟩, hb⟩
  · exact ⟨10, none, 0, 0, rfl, .inr rfl, hb⟩
/-- What decide does. -/
def DcPost (B : Nat) (M N : Nat → Prop) (H n : Nat) (x : Hf) (tick : Int) (w : World) (e : Ending) (w' : World) : Prop :=
  e = .returned (.bool true) ∧ ∃ (A' : HfAd) (ls : List Lse) (rs : Nat → Rmp) (num : Int), Own w' H 44 15 (hfF (hfL n (decX x ls rs num) A')) ∧ HfX B M N H n (decX x ls rs num) A' w' ∧ DecOk n tick x ls rs num ∧ Mod (fun k => k = H) w w'
set_option maxRecDepth 100000 in
set_option maxHeartbeats 16000000 in
theorem r7Decide_ok {B : Nat} {M N : Nat → Prop} {H n : Nat} {x : Hf} {A : HfAd} {tick : Int} {r : Nat} {w : World} (HO : Hid (Own w H 44 15 (hfF (hfL n x A)))) (HX : Hid (HfX B M N H n x A w)) (OK : Hid (HfOk n tick r x)) (hn0 : 0 < n) (hn : n ≤ 4) (ht0 : 0 ≤ tick) (ht1 : tick ≤ 200) (hh0 : 0 ≤ x.sh.hav) (hh1 : x.sh.hav ≤ 198) (HMN : Hid (∀ k, M k → N k)) (HN : Hid (∀ k, N k → k < w.heap.size)) (HT : Hid (hapT w)) (hH1 : 1 < H) :
    Calls Tryz.prog 10 #[.pointer (some ⟨H, 0, none⟩), .int .i64 tick] w (DcPost B M N H n x tick w) := by
  have HS0 : Hid (H < w.heap.size) := Lib.hid HO.out.lt
  have k9 : w.cell? ⟨H, 9, none⟩ = some (.slice A.aL A.nL A.cL) := HO.out.cell (i := 9) (by omega)
  have lH : H < w.heap.size := HO.out.lt
  go_enter Tryz.func10, Tryz.ntmps10
  go_wp2_with fail
  refine (leExpire_ok A.aL A.nL A.cL x.ls tick w (Lib.hid HX.out.ls) (Lib.hid HX.out.ll) (Lib.hid OK.out.ls) ht0 (by omega)).mono ?_
  rintro e w1 ⟨aL1, cL1, rfl, hrd1, hfr1, hb1⟩
  obtain ⟨l1, hl1⟩ : ∃ l, l = exL tick x.ls := ⟨_, rfl⟩
  obtain ⟨nL1, hnL1⟩ : ∃ k, k = l1.length := ⟨_, rfl⟩
  rw [← hl1] at hrd1
  have hO1 := HO.out.keep hb1 HO.out.lt
  have hX1 := HX.out.keep hn0 hb1
  have c9 := hO1.cell (i := 9) (by omega)
  have f9 := hO1.frozen 9
  have l9 := hO1.lt
  obtain ⟨w2, hw2⟩ : ∃ W, W = w1.setCell ⟨H, 9, none⟩ (.slice aL1 nL1 cL1) := ⟨_, rfl⟩
  have hm2 : Mod (fun k => k = H) w1 w2 := by rw [hw2]; exact (Mod.refl (fun k => k = H) w1).setCell (p := ⟨H, 9, none⟩) (.inl rfl) _
  have HO2 : Hid (Own w2 H 44 15 (hfF (hfL n { x with ls := l1 } { A with aL := aL1, nL := nL1, cL := cL1 }))) := Lib.hid (by rw [hw2]; exact hO1.hfSet (by rw [hfL_len]; omega) _)
  have hap : Apt N aL1 l1.length := apt_new HN.out hfr1
  have HX2 : Hid (HfX B M N H n { x with ls := l1 } { A with aL := aL1, nL := nL1, cL := cL1 } w2) := Lib.hid (((hX1.leases x.num hrd1 hnL1.symm hap) : HfX B M N H n { x with ls := l1 } { A with aL := aL1, nL := nL1, cL := cL1 } w1).hmod hn0 HMN.out hm2)
  have HM2 : Hid (Mod (fun k => k = H) w w2) := Lib.hid (((Mod.of_below hb1).mono (fun k hk h => by omega)).trans hm2)
  have HL1 := Lib.hid hl1
  rw [← hl1, ← hnL1]
  have HW2 := Lib.hid hw2.symm
  clear hrd1 hfr1 hb1 hO1 hX1 hw2 hm2 hap hl1 hnL1 k9
  go_upto_region 5 with (fail)
  rw [HW2.out]
  clear HW2 c9 f9 l9
  obtain ⟨hv, hhv⟩ : ∃ v, v = x.sh.hav := ⟨_, rfl⟩
  have k0 : w2.cell? ⟨H, 0, none⟩ = some (.int .i64 hv) := by rw [hhv]; exact HO2.out.cell (i := 0) (by omega)
  have lH2 : H < w2.heap.size := HO2.out.lt
  have HHV := Lib.hid hhv
  rw [← hhv] at hh0 hh1
  clear hhv lH
  by_cases hz : hv = 0
  · have HD := Lib.hid (DecOk.none OK.out)
    go_wp2_with fail
    go_ret
    exact ⟨rfl, _, l1, x.rs, x.num, HO2.out, HX2.out, by rw [HL1.out]; exact HD.out, HM2.out⟩
  · have k4 : w2.cell? ⟨H, 4, none⟩ = some (.slice A.a1 1 A.c1) := HO2.out.cell (i := 4) (by omega)
    have hOl : OwnR 72 11 encCon (w2.alloc (.cells #[] 72)) w2.heap.size (.slice (some ⟨w2.heap.size, 0, none⟩) 0 0) ([] : List GCon) := OwnR.made w2 #[] 0 (by unfold maxLen; omega) rfl (Nat.le_refl _)
    have hb3 : Below w2.heap.size w2 (w2.alloc (.cells #[] 72)) := (Below.refl _ _).alloc (Nat.le_refl _) _
    obtain ⟨ap, v', w4, av, aw, HC4, HA4⟩ := app_conds (c := A.c1) hOl (HX2.out.st.r1.keep hb3) (m := 1) rfl hb3.size (by simp)
    have hb4 : Below w2.heap.size w2 w4 := hb3.trans HA4.out.bel
    obtain ⟨g, gc, F, hv', hg, hg1, hgm, hgo, hgF⟩ := HC4.out.open_ encCon_len (show 0 < 1 by omega)
    rw [show (([] : List GCon) ++ (twS n A.cap).cons).length = 1 from rfl] at hv' hg1
    have hO4 := HO2.out.keep hb4 HO2.out.lt
    have c4 := hO4.cell (i := 4) (by omega)
    have f4 := hO4.frozen 4
    have l4 := hO4.lt
    subst hv'
    have HG4 := Lib.hid (And.intro hg (And.intro hg1 (And.intro hgo hgF)))
    have HO4 := Lib.hid hO4
    have HB4 := Lib.hid hb4
    clear hOl hb3 HA4 HC4 hb4 hg hgm hgo hgF hO4 hg1
    go_upto_region 8 with (fail)
    obtain ⟨w5, hw5⟩ : ∃ W, W = w4.setCell ⟨H, 4, none⟩ (.slice (some ⟨g, 0, none⟩) 1 gc) := ⟨_, rfl⟩
    have hgH : g ≠ H := by have := HG4.out.1; omega
    have HO5 : Hid (Own w5 H 44 15 (hfF (hfL n { x with ls := l1 } { A with aL := aL1, nL := nL1, cL := cL1, a1 := some ⟨g, 0, none⟩, c1 := gc }))) := Lib.hid (by rw [hw5]; exact HO4.out.hfSet (i := 4) (by rw [hfL_len]; omega) _)
    have hgo5 : Own w5 g 72 (gc * 11) F := by rw [hw5]; exact HG4.out.2.2.1.other (by show g ≠ H; exact hgH) _
    have hm5 : Mod (fun k => k = H) w2 w5 := by rw [hw5]; exact Mod.setCell (M := fun k => k = H) ((Mod.of_below HB4.out).mono (fun k hk h => by omega)) (p := ⟨H, 4, none⟩) (.inl rfl) _
    rw [← hw5]
    clear hw5 c4 f4 l4 HO4 ap av aw k0 k4 lH2
    have k0 : w5.cell? ⟨H, 0, none⟩ = some (.int .i64 hv) := by rw [HHV.out]; exact HO5.out.cell (i := 0) (by omega)
    have k4 : w5.cell? ⟨H, 4, none⟩ = some (.slice (some ⟨g, 0, none⟩) 1 gc) := HO5.out.cell (i := 4) (by omega)
    have c2 := hgo5.cell (i := 2) (by have := HG4.out.2.1; omega)
    have f2 := hgo5.frozen 2
    have lg := hgo5.lt
    have lH5 : H < w5.heap.size := HO5.out.lt
    have HGO5 := Lib.hid hgo5
    have HM5 := Lib.hid hm5
    clear hgo5 hm5
    go_wp2_with fail
    go_still_tail 12, (by kernel_rfl)
    change wpList _ _ _ _ _ w5.drew
    go_wp2_with fail
    obtain ⟨w6, hw6⟩ : ∃ W, W = (w5.setCell ⟨g, 2, none⟩ (.int .i64 hv)).drew := ⟨_, rfl⟩
    have hm6 : Mod (fun k => k = H) w2 w6 := by rw [hw6]; exact (HM5.out.setCell (p := ⟨g, 2, none⟩) (.inr HG4.out.1) _).drew
    have HO6 : Hid (Own w6 H 44 15 (hfF (hfL n { x with ls := l1 } { A with aL := aL1, nL := nL1, cL := cL1, a1 := some ⟨g, 0, none⟩, c1 := gc, cap := hv }))) := Lib.hid (by rw [hw6]; exact (HO5.out.other (by show H ≠ g; exact fun e => hgH e.symm) _).drew)
    have hg6 : Own w6 g 72 (gc * 11) (fun j => if j = 2 then .int .i64 hv else F j) := by rw [hw6]; exact (HGO5.out.set 2 _).drew
    have hrd6 : Rd 11 encCon w6 (some ⟨g, 0, none⟩) [twC hv] := hg6.rd (by have := HG4.out.2.1; simp; omega) encCon_len (fun k y hy j u hu => by
      have hk : k = 0 := by have := (List.getElem?_eq_some_iff.1 hy).1; simp at this; exact this
      subst hk
      simp at hy
      subst hy
      have hF := HG4.out.2.2.2 0 (twC A.cap) j
      rw [Nat.zero_mul, Nat.zero_add] at hF ⊢
      by_cases e2 : j = 2
      · subst e2
        rw [if_pos rfl]
        have hu' : some (Value.int .i64 hv) = some u := hu
        injection hu'
      · rw [if_neg e2]
        refine hF u rfl ?_
        rw [← hu]
        match j, e2 with
        | 0, _ => rfl
        | 1, _ => rfl
        | 2, e2 => exact absurd rfl e2
        | 3, _ => rfl
        | 4, _ => rfl
        | 5, _ => rfl
        | 6, _ => rfl
        | 7, _ => rfl
        | 8, _ => rfl
        | 9, _ => rfl
        | 10, _ => rfl
        | (j + 11), _ => rfl)
    have HX6 : Hid (HfX B M N H n { x with ls := l1 } { A with aL := aL1, nL := nL1, cL := cL1, a1 := some ⟨g, 0, none⟩, c1 := gc, cap := hv } w6) := Lib.hid ((HX2.out.hmod hn0 HMN.out hm6).limit hrd6 (by omega) (fun p e _ hp => by injection e with e; subst e; have h1 := HN.out _ hp; have h2 := HG4.out.1; have h3 := HM2.out.size; dsimp only at h1; omega))
    have HM6 : Hid (Mod (fun k => k = H) w w6) := Lib.hid (HM2.out.trans hm6)
    rw [← hw6]
    clear hw6 hm6 hg6 hrd6 k0 k4 c2 f2 lg lH5 HO2 HX2 HM2 HG4 HB4 HO5 HGO5 HM5 hgH
    have HT6 : Hid (hapT w6) := Lib.hid (hapT_mod HT.out HM6.out (by omega))
    have HL : Hid (LsOk l1 ∧ (∀ y ∈ l1, y.frm ≤ tick) ∧ (∀ y ∈ l1, y.chg < (n : Int))) := Lib.hid (by rw [HL1.out]; exact ⟨exL_ok OK.out.ls, fun y hy => OK.out.fr y (exL_mem hy), fun y hy => OK.out.cg y (exL_mem hy)⟩)
    have HRS : Hid (∀ i, i < n → (x.rs i).snc ≤ 1000) := Lib.hid (fun i hi => by have := OK.out.rm i hi; omega)
    have HNU : Hid (1 ≤ x.num ∧ x.num ≤ 999900) := Lib.hid (by have := OK.out.n1; have := OK.out.n2; constructor <;> omega)
    have k4 : w6.cell? ⟨H, 4, none⟩ = some (.slice (some ⟨g, 0, none⟩) 1 gc) := HO6.out.cell (i := 4) (by omega)
    have k5 : w6.cell? ⟨H, 5, none⟩ = some (.slice A.a2 1 A.c2) := HO6.out.cell (i := 5) (by omega)
    have k6 : w6.cell? ⟨H, 6, none⟩ = some (.slice A.a3 0 A.c3) := HO6.out.cell (i := 6) (by omega)
    have k7 : w6.cell? ⟨H, 7, none⟩ = some (.slice (some ⟨A.bC, A.oC, none⟩) n A.c4) := HO6.out.cell (i := 7) (by omega)
    have k8 : w6.cell? ⟨H, 8, none⟩ = some (.slice A.a5 0 A.c5) := HO6.out.cell (i := 8) (by omega)
    have k9 : w6.cell? ⟨H, 9, none⟩ = some (.slice aL1 nL1 cL1) := HO6.out.cell (i := 9) (by omega)
    have k10 : w6.cell? ⟨H, 10, none⟩ = some (.slice (some ⟨A.bR, A.oR, none⟩) n A.cR) := HO6.out.cell (i := 10) (by omega)
    have k11 : w6.cell? ⟨H, 11, none⟩ = some (.slice (some ⟨A.bD, A.oD, none⟩) n A.cD) := HO6.out.cell (i := 11) (by omega)
    have k12 : w6.cell? ⟨H, 12, none⟩ = some (.int .i64 x.num) := HO6.out.cell (i := 12) (by omega)
    go_upto_region 9 with (fail)
    refine region_z (S := fun w' => Below w6.heap.size w6 w') [] (by kernel_rfl) ((Below.refl _ _).drew) (fun hHeld => ?_)
    refine zt (i := 0) (v := .pointer (some ⟨H, 0, none⟩)) [] (fun w' hSw => ?_) hHeld ?_
    · clear hHeld hSw
      go_simp
    simp only [Act.put, zl0, zl1, zl2, zl3, zl4, zl5]
    refine zt (i := 1) (v := .pointer (some ⟨H, 0, none⟩)) [] (fun w' hSw => ?_) hHeld ?_
    · clear hHeld hSw
      go_simp
    simp only [Act.put, zl0, zl1, zl2, zl3, zl4, zl5]
    refine zt (i := 2) (v := .pointer (some ⟨H, 4, none⟩)) [] (fun w' hSw => ?_) hHeld ?_
    · clear hHeld hSw
      go_simp
    simp only [Act.put, zl0, zl1, zl2, zl3, zl4, zl5]
    refine zt (i := 3) (v := .agg #[.slice (some ⟨g, 0, none⟩) 1 gc, .slice A.a2 1 A.c2, .slice A.a3 0 A.c3, .slice (some ⟨A.bC, A.oC, none⟩) n A.c4, .slice A.a5 0 A.c5]) [] (fun w' hSw => ?_) hHeld ?_
    · have s4' := (hSw.cell (zb k4)).trans k4
      have ls4 := zb s4'
      dsimp only at ls4
      have s5' := (hSw.cell (zb k5)).trans k5
      have ls5 := zb s5'
      dsimp only at ls5
      have s6' := (hSw.cell (zb k6)).trans k6
      have ls6 := zb s6'
      dsimp only at ls6
      have s7' := (hSw.cell (zb k7)).trans k7
      have ls7 := zb s7'
      dsimp only at ls7
      have s8' := (hSw.cell (zb k8)).trans k8
      have ls8 := zb s8'
      dsimp only at ls8
      clear hHeld hSw
      go_simp
    simp only [Act.put, zl0, zl1, zl2, zl3, zl4, zl5]
    refine zt (i := 4) (v := .pointer (some ⟨H, 0, none⟩)) [] (fun w' hSw => ?_) hHeld ?_
    · clear hHeld hSw
      go_simp
    simp only [Act.put, zl0, zl1, zl2, zl3, zl4, zl5]
    refine zt (i := 5) (v := .pointer (some ⟨H, 0, none⟩)) [] (fun w' hSw => ?_) hHeld ?_
    · clear hHeld hSw
      go_simp
    simp only [Act.put, zl0, zl1, zl2, zl3, zl4, zl5]
    refine zt (i := 6) (v := .pointer (some ⟨H, 9, none⟩)) [] (fun w' hSw => ?_) hHeld ?_
    · clear hHeld hSw
      go_simp
    simp only [Act.put, zl0, zl1, zl2, zl3, zl4, zl5]
    refine zt (i := 7) (v := .slice aL1 nL1 cL1) [] (fun w' hSw => ?_) hHeld ?_
    · have s9' := (hSw.cell (zb k9)).trans k9
      have ls9 := zb s9'
      dsimp only at ls9
      clear hHeld hSw
      go_simp
    simp only [Act.put, zl0, zl1, zl2, zl3, zl4, zl5]
    refine zt (i := 8) (v := .pointer (some ⟨H, 0, none⟩)) [] (fun w' hSw => ?_) hHeld ?_
    · clear hHeld hSw
      go_simp
    simp only [Act.put, zl0, zl1, zl2, zl3, zl4, zl5]
    refine zt (i := 9) (v := .pointer (some ⟨H, 0, none⟩)) [] (fun w' hSw => ?_) hHeld ?_
    · clear hHeld hSw
      go_simp
    simp only [Act.put, zl0, zl1, zl2, zl3, zl4, zl5]
    refine zt (i := 10) (v := .pointer (some ⟨H, 10, none⟩)) [] (fun w' hSw => ?_) hHeld ?_
    · clear hHeld hSw
      go_simp
    simp only [Act.put, zl0, zl1, zl2, zl3, zl4, zl5]
    refine zt (i := 11) (v := .slice (some ⟨A.bR, A.oR, none⟩) n A.cR) [] (fun w' hSw => ?_) hHeld ?_
    · have s10' := (hSw.cell (zb k10)).trans k10
      have ls10 := zb s10'
      dsimp only at ls10
      clear hHeld hSw
      go_simp
    simp only [Act.put, zl0, zl1, zl2, zl3, zl4, zl5]
    refine zt (i := 12) (v := .pointer (some ⟨H, 0, none⟩)) [] (fun w' hSw => ?_) hHeld ?_
    · clear hHeld hSw
      go_simp
    simp only [Act.put, zl0, zl1, zl2, zl3, zl4, zl5]
    refine zt (i := 13) (v := .pointer (some ⟨H, 0, none⟩)) [] (fun w' hSw => ?_) hHeld ?_
    · clear hHeld hSw
      go_simp
    simp only [Act.put, zl0, zl1, zl2, zl3, zl4, zl5]
    refine zt (i := 14) (v := .pointer (some ⟨H, 11, none⟩)) [] (fun w' hSw => ?_) hHeld ?_
    · clear hHeld hSw
      go_simp
    simp only [Act.put, zl0, zl1, zl2, zl3, zl4, zl5]
    refine zt (i := 15) (v := .slice (some ⟨A.bD, A.oD, none⟩) n A.cD) [] (fun w' hSw => ?_) hHeld ?_
    · have s11' := (hSw.cell (zb k11)).trans k11
      have ls11 := zb s11'
      dsimp only at ls11
      clear hHeld hSw
      go_simp
    simp only [Act.put, zl0, zl1, zl2, zl3, zl4, zl5]
    refine zt (i := 16) (v := .int .i64 tick) [] (fun w' hSw => ?_) hHeld ?_
    · clear hHeld hSw
      go_simp
    simp only [Act.put, zl0, zl1, zl2, zl3, zl4, zl5]
    refine zt (i := 17) (v := .pointer (some ⟨H, 0, none⟩)) [] (fun w' hSw => ?_) hHeld ?_
    · clear hHeld hSw
      go_simp
    simp only [Act.put, zl0, zl1, zl2, zl3, zl4, zl5]
    refine zt (i := 18) (v := .pointer (some ⟨H, 0, none⟩)) [] (fun w' hSw => ?_) hHeld ?_
    · clear hHeld hSw
      go_simp
    simp only [Act.put, zl0, zl1, zl2, zl3, zl4, zl5]
    refine zt (i := 19) (v := .pointer (some ⟨H, 12, none⟩)) [] (fun w' hSw => ?_) hHeld ?_
    · clear hHeld hSw
      go_simp
    simp only [Act.put, zl0, zl1, zl2, zl3, zl4, zl5]
    refine zt (i := 20) (v := .int .i64 x.num) [] (fun w' hSw => ?_) hHeld ?_
    · have s12' := (hSw.cell (zb k12)).trans k12
      have ls12 := zb s12'
      dsimp only at ls12
      clear hHeld hSw
      go_simp
    simp only [Act.put, zl0, zl1, zl2, zl3, zl4, zl5]
    refine zo 21 (fun K' hK => ?_)
    go_simp
    refine (coDecide_ok (some ⟨g, 0, none⟩) A.a2 A.a3 A.a5 aL1 1 gc 1 A.c2 0 A.c3 A.bC A.oC A.c4 0 A.c5 nL1 cL1 A.bD A.oD A.cD A.bR A.oR A.cR n tick x.num (twS n hv) hv l1 x.wa x.rs _ (Lib.hid (HX6.out.st.keep hHeld)) (Lib.hid (twS_park hn0 hn (by omega))) (Lib.hid (HX6.out.dm.keep hHeld)) (Lib.hid (HX6.out.ls.keep hHeld)) (Lib.hid HX6.out.ll) (Lib.hid HL.out.1) (Lib.hid HL.out.2.1) (Lib.hid HL.out.2.2) (Lib.hid (HX6.out.rm.keep hHeld)) HRS (Lib.hid (hapT_keep HT6.out hHeld)) (by omega) HNU.out.1 HNU.out.2).mono ?_
    rintro e wk ⟨GC, GN, aM, nM, cM, mo, v, rs', rfl, hGN, hrm, hrs, hmo, hfm, hml, hmn, hMO, hvb, hsum, hbk⟩
    have HDE := Lib.hid (And.intro (Nat.le_trans hHeld.size hGN) (And.intro hrm (And.intro hrs (And.intro hmo (And.intro (fun p hp => Nat.le_trans hHeld.size (hfm p hp)) (And.intro hml (And.intro hmn (And.intro hMO (And.intro hvb hsum)))))))))
    refine hK.out _ _ ?_ (fun hHeld' => ?_)
    · exact hHeld.trans (hbk.mono hHeld.size)
    clear hK K' hHeld hbk hGN hrm hrs hmo hfm hml hmn hMO hvb hsum
    have hHeld := hHeld'
    clear hHeld'
    try simp only [Act.put, zl0, zl1, zl2, zl3, zl4, zl5]
    refine zt (i := 22) (v := .tuple #[.slice (some ⟨GC, 0, none⟩) n n, .slice (some ⟨GN, 0, none⟩) n n, .slice aM nM cM, .int .i64 0]) [] (fun w' hSw => ?_) hHeld ?_
    · clear hHeld hSw
      go_simp
    simp only [Act.put, zl0, zl1, zl2, zl3, zl4, zl5]
    refine zt (i := 23) (v := .slice (some ⟨GC, 0, none⟩) n n) [] (fun w' hSw => ?_) hHeld ?_
    · clear hHeld hSw
      go_simp
    simp only [Act.put, zl0, zl1, zl2, zl3, zl4, zl5]
    refine zt (i := 24) (v := .slice (some ⟨GN, 0, none⟩) n n) [] (fun w' hSw => ?_) hHeld ?_
    · clear hHeld hSw
      go_simp
    simp only [Act.put, zl0, zl1, zl2, zl3, zl4, zl5]
    refine zt (i := 25) (v := .slice aM nM cM) [] (fun w' hSw => ?_) hHeld ?_
    · clear hHeld hSw
      go_simp
    simp only [Act.put, zl0, zl1, zl2, zl3, zl4, zl5]
    refine zt (i := 26) (v := .int .i64 0) [] (fun w' hSw => ?_) hHeld ?_
    · clear hHeld hSw
      go_simp
    simp only [Act.put, zl0, zl1, zl2, zl3, zl4, zl5]
    refine zt (i := 27) (v := .slice (some ⟨GC, 0, none⟩) n n) [] (fun w' hSw => ?_) hHeld ?_
    · clear hHeld hSw
      go_simp
    simp only [Act.put, zl0, zl1, zl2, zl3, zl4, zl5]
    refine zt (i := 28) (v := .slice (some ⟨GN, 0, none⟩) n n) [] (fun w' hSw => ?_) hHeld ?_
    · clear hHeld hSw
      go_simp
    simp only [Act.put, zl0, zl1, zl2, zl3, zl4, zl5]
    refine zt (i := 29) (v := .slice aM nM cM) [] (fun w' hSw => ?_) hHeld ?_
    · clear hHeld hSw
      go_simp
    simp only [Act.put, zl0, zl1, zl2, zl3, zl4, zl5]
    refine zt (i := 30) (v := .int .i64 0) [] (fun w' hSw => ?_) hHeld ?_
    · clear hHeld hSw
      go_simp
    simp only [Act.put, zl0, zl1, zl2, zl3, zl4, zl5]
    refine wpAnyZ_done (by kernel_rfl) ?_ _
    have HB7 := Lib.hid hHeld
    have HO7 := HO6.out.keep hHeld HO6.out.lt
    have HX7 := HX6.out.keep hn0 hHeld
    have hGN : ¬ N GN := fun hp => by have h1 := HN.out _ hp; have h2 := HDE.out.1; have h3 := HM6.out.size; omega
    have c10 := HO7.cell (i := 10) (by omega)
    have f10 := HO7.frozen 10
    have l10 := HO7.lt
    obtain ⟨w8, hw8⟩ : ∃ W, W = wk.setCell ⟨H, 10, none⟩ (.slice (some ⟨GN, 0, none⟩) n n) := ⟨_, rfl⟩
    have hm8 : Mod (fun k => k = H) wk w8 := by rw [hw8]; exact (Mod.refl (fun k => k = H) wk).setCell (p := ⟨H, 10, none⟩) (.inl rfl) _
    have HO8 : Hid (Own w8 H 44 15 (hfF (hfL n (decX x l1 rs' x.num) { A with aL := aL1, nL := nL1, cL := cL1, a1 := some ⟨g, 0, none⟩, c1 := gc, cap := hv, bR := GN, oR := 0, cR := n }))) := Lib.hid (by rw [hw8]; exact HO7.hfSet (i := 10) (by rw [hfL_len]; omega) _)
    have HX8 : Hid (HfX B M N H n (decX x l1 rs' x.num) { A with aL := aL1, nL := nL1, cL := cL1, a1 := some ⟨g, 0, none⟩, c1 := gc, cap := hv, bR := GN, oR := 0, cR := n } w8) := Lib.hid (((HX7.ramps (cR := n) HDE.out.2.1 hGN) : HfX B M N H n (decX x l1 rs' x.num) { A with aL := aL1, nL := nL1, cL := cL1, a1 := some ⟨g, 0, none⟩, c1 := gc, cap := hv, bR := GN, oR := 0, cR := n } wk).hmod hn0 HMN.out hm8)
    have HM8 : Hid (Mod (fun k => k = H) w w8) := Lib.hid ((HM6.out.trans ((Mod.of_below hHeld).mono (fun k hk h => by omega))).trans hm8)
    have HML : Hid (mo.length = nM ∧ nM ≤ n) := Lib.hid ⟨HDE.out.2.2.2.2.2.1, HDE.out.2.2.2.2.2.2.1⟩
    have HMO : Hid (Rd 5 encLse w8 aM mo) := Lib.hid (HDE.out.2.2.2.1.mod hm8 (fun a e _ hp => by have h1 := HDE.out.2.2.2.2.1 a e; have h2 := HO6.out.lt; omega))
    have HMF : Hid (∀ p, aM = some p → p.block ≠ H) := Lib.hid (fun p e hp => by have h1 := HDE.out.2.2.2.2.1 p e; have h2 := HO6.out.lt; omega)
    have HFIN : Hid (MoOk x.num tick v n mo ∧ (∀ i, i < n → 0 ≤ v i ∧ v i ≤ 32) ∧ (∀ i, i < n → (rs' i).snc ≤ (x.rs i).snc + 1) ∧ sumN (fun i => max (alvF (exL tick l1) i) (v i)) n ≤ max hv (sumN (alvF (exL tick l1)) n)) := Lib.hid ⟨HDE.out.2.2.2.2.2.2.2.1, HDE.out.2.2.2.2.2.2.2.2.1, HDE.out.2.2.1, HDE.out.2.2.2.2.2.2.2.2.2⟩
    have HG0 : Hid (GrOk n tick x.num x.num v l1 0 l1) := Lib.hid (by rw [HL1.out]; exact GrOk.start OK.out v)
    have HW8 := Lib.hid hw8.symm
    clear hHeld HO7 HX7 hGN hw8 hm8 HDE k4 k5 k6 k7 k8 k9 k10 k11 k12 HO6 HX6 HB7
    go_upto_region 13 with (fail)
    rw [HW8.out]
    clear HW8 c10 f10 l10
    have hnM4 : nM ≤ 4 := by have := HML.out.2; omega
    go_wp2_with fail
    go_loopg [94] (nM + 1) (fun g1 v94 wr => ∃ (j : Nat) (ls : List Lse) (nu : Int) (A' : HfAd), v94 = .int .i64 (j : Nat) ∧ j ≤ nM ∧ nM - j ≤ g1 ∧ Hid (Own wr H 44 15 (hfF (hfL n (decX x ls rs' nu) A'))) ∧ Hid (HfX B M N H n (decX x ls rs' nu) A' wr) ∧ Hid (GrOk n tick nu x.num v l1 j ls) ∧ Hid (Mod (fun k => k = H) w8 wr))
    case atStart => exact ⟨0, l1, x.num, _, by go_num, by omega, by omega, HO8, HX8, HG0, Lib.hid (Mod.refl _ _)⟩
    case round =>
      clear HO8 HX8 HG0
      obtain ⟨j, ls, nu, A', rfl, hj, hg1, HOr, HXr, HGr, HMr⟩ := hrel
      by_cases hlt : j < nM
      · have hltz : (j : Int) < (nM : Int) := by omega
        obtain ⟨bb, off, y, hA, hlb0, hgx, d0, d1, d2, d3, d4⟩ := rdLse_at (HMO.out.mod HMr.out (fun a e _ hp => HMF.out a e hp)) (show j < mo.length by rw [HML.out.1]; exact hlt)
        obtain ⟨h1, h3, h4, i, hi, h5, h6, h7⟩ := HFIN.out.1 j y hgx
        have hv32 := HFIN.out.2.1 i hi
        have HYO : Hid (LseOk y) := Lib.hid ⟨by have := HNU.out.1; omega, by have := HNU.out.2; have := HML.out; omega, by omega, by omega, h6, by omega, by omega, by omega, h4⟩
        have HAF : Hid (∀ z ∈ ls, after z y) := Lib.hid (fun z hz => ⟨by have := HGr.out.nu z hz; have := HGr.out.n2; omega, by rw [h3]; exact HGr.out.fr HL.out.2.1 z hz⟩)
        have HYI : Hid (y.num = x.num + (j : Int) ∧ y.frm = tick ∧ ∃ i : Nat, i < n ∧ y.chg = (i : Int) ∧ y.amp ≤ v i) := Lib.hid ⟨h1, h3, i, hi, h5, h7⟩
        have hyb : 0 ≤ y.num ∧ y.num ≤ 2000000 := by have := HYO.out.n1; have := HYO.out.n2; constructor <;> omega
        clear h1 h3 h4 hi h5 h6 h7 hv32 hgx
        obtain ⟨y0, y1, y2, y3, y4⟩ := y
        dsimp only at d0 d1 d2 d3 d4 hyb
        obtain ⟨wb, hwb⟩ : ∃ W, W = wr.alloc (.cells #[.int .i64 y0, .int .i64 y1, .int .i64 y2, .int .i64 y3, .int .i64 y4] 96) := ⟨_, rfl⟩
        obtain ⟨Y, hY⟩ : ∃ Y, Y = wr.heap.size := ⟨_, rfl⟩
        have hbA : Below wr.heap.size wr wb := by rw [hwb]; exact (Below.refl _ _).alloc (Nat.le_refl _) _
        obtain ⟨z0, z1, z2, z3, z4⟩ : wb.cell? ⟨Y, 0, none⟩ = some (.int .i64 y0) ∧ wb.cell? ⟨Y, 1, none⟩ = some (.int .i64 y1) ∧ wb.cell? ⟨Y, 2, none⟩ = some (.int .i64 y2) ∧ wb.cell? ⟨Y, 3, none⟩ = some (.int .i64 y3) ∧ wb.cell? ⟨Y, 4, none⟩ = some (.int .i64 y4) := by rw [hwb, hY]; exact ⟨by go_simp, by go_simp, by go_simp, by go_simp, by go_simp⟩
        have HOb := Lib.hid (HOr.out.keep hbA HOr.out.lt)
        have HXb := Lib.hid (HXr.out.keep hn0 hbA)
        have HMb : Hid (Mod (fun k => k = H) w8 wb) := Lib.hid (HMr.out.trans ((Mod.of_below hbA).mono (fun k hk h => by omega)))
        have q9 : wb.cell? ⟨H, 9, none⟩ = some (.slice A'.aL A'.nL A'.cL) := HOb.out.cell (i := 9) (by omega)
        have HYN : Hid (¬ Y = H) := Lib.hid (by have := HOr.out.lt; omega)
        have HSB : Hid (w8.heap.size ≤ wb.heap.size) := Lib.hid HMb.out.size
        have HWB := Lib.hid (And.intro hwb.symm hY.symm)
        clear hwb hY hbA HOr HXr HMr
        subst hA
        go_upto_region 16 with (fail)
        rw [HWB.out.1, HWB.out.2]
        clear HWB d0 d1 d2 d3 d4 hlb0
        refine region_z (S := fun w' => Below wb.heap.size wb w') [] (by kernel_rfl) ((Below.refl _ _).drew) (fun hHeld => ?_)
        refine zt (i := 0) (v := .pointer (some ⟨H, 0, none⟩)) [] (fun w' hSw => ?_) hHeld ?_
        · clear hHeld hSw
          go_simp
        simp only [Act.put, zl0, zl1, zl2, zl3, zl4, zl5]
        refine zt (i := 1) (v := .pointer (some ⟨H, 0, none⟩)) [] (fun w' hSw => ?_) hHeld ?_
        · clear hHeld hSw
          go_simp
        simp only [Act.put, zl0, zl1, zl2, zl3, zl4, zl5]
        refine zt (i := 2) (v := .pointer (some ⟨H, 9, none⟩)) [] (fun w' hSw => ?_) hHeld ?_
        · clear hHeld hSw
          go_simp
        simp only [Act.put, zl0, zl1, zl2, zl3, zl4, zl5]
        refine zt (i := 3) (v := .slice A'.aL A'.nL A'.cL) [] (fun w' hSw => ?_) hHeld ?_
        · have s9' := (hSw.cell (zb q9)).trans q9
          have ls9 := zb s9'
          dsimp only at ls9
          clear hHeld hSw
          go_simp
        simp only [Act.put, zl0, zl1, zl2, zl3, zl4, zl5]
        refine zt (i := 4) (v := .agg #[.int .i64 y0, .int .i64 y1, .int .i64 y2, .int .i64 y3, .int .i64 y4]) [] (fun w' hSw => ?_) hHeld ?_
        · have z0' := (hSw.cell (zb z0)).trans z0
          have lz0 := zb z0'
          dsimp only at lz0
          have z1' := (hSw.cell (zb z1)).trans z1
          have lz1 := zb z1'
          dsimp only at lz1
          have z2' := (hSw.cell (zb z2)).trans z2
          have lz2 := zb z2'
          dsimp only at lz2
          have z3' := (hSw.cell (zb z3)).trans z3
          have lz3 := zb z3'
          dsimp only at lz3
          have z4' := (hSw.cell (zb z4)).trans z4
          have lz4 := zb z4'
          dsimp only at lz4
          clear hHeld hSw
          go_simp
        simp only [Act.put, zl0, zl1, zl2, zl3, zl4, zl5]
        refine zo 5 (fun K' hK => ?_)
        go_simp
        refine (leGrant_two A'.aL A'.nL A'.cL ls ⟨y0, y1, y2, y3, y4⟩ _ (Lib.hid (HXb.out.ls.keep hHeld)) (Lib.hid HXb.out.ll) (Lib.hid HGr.out.lo) HYO HAF).mono ?_
        rintro e wk ⟨er, aG, nG, cG, rfl, hgr, hbk⟩
        have HGR := Lib.hid hgr
        have HSW := Lib.hid hHeld.size
        refine hK.out _ _ ?_ (fun hHeld' => ?_)
        · exact hHeld.trans (hbk.mono hHeld.size)
        clear hK K' hHeld hbk hgr
        have hHeld := hHeld'
        clear hHeld'
        try simp only [Act.put, zl0, zl1, zl2, zl3, zl4, zl5]
        refine zt (i := 6) (v := .tuple #[.slice aG nG cG, .int .i64 er]) [] (fun w' hSw => ?_) hHeld ?_
        · clear hHeld hSw
          go_simp
        simp only [Act.put, zl0, zl1, zl2, zl3, zl4, zl5]
        refine zt (i := 7) (v := .slice aG nG cG) [] (fun w' hSw => ?_) hHeld ?_
        · clear hHeld hSw
          go_simp
        simp only [Act.put, zl0, zl1, zl2, zl3, zl4, zl5]
        refine zt (i := 8) (v := .int .i64 er) [] (fun w' hSw => ?_) hHeld ?_
        · clear hHeld hSw
          go_simp
        simp only [Act.put, zl0, zl1, zl2, zl3, zl4, zl5]
        refine zt (i := 9) (v := .slice aG nG cG) [] (fun w' hSw => ?_) hHeld ?_
        · clear hHeld hSw
          go_simp
        simp only [Act.put, zl0, zl1, zl2, zl3, zl4, zl5]
        refine zt (i := 10) (v := .int .i64 er) [] (fun w' hSw => ?_) hHeld ?_
        · clear hHeld hSw
          go_simp
        simp only [Act.put, zl0, zl1, zl2, zl3, zl4, zl5]
        refine wpAnyZ_done (by kernel_rfl) ?_ _
        have HOk := Lib.hid (HOb.out.keep hHeld HOb.out.lt)
        have HXk := Lib.hid (HXb.out.keep hn0 hHeld)
        have HMk : Hid (Mod (fun k => k = H) w8 wk) := Lib.hid (HMb.out.trans ((Mod.of_below hHeld).mono (fun k hk h => by omega)))
        have hz0 : wk.cell? ⟨Y, 0, none⟩ = some (.int .i64 y0) := (hHeld.cell (zb z0)).trans z0
        have HZ0 := Lib.hid hz0
        clear hHeld z0 z1 z2 z3 z4 q9 HOb HXb HMb HAF hz0
        rcases HGR.out with ⟨her, hl64, hnG, hrdG, hfrG⟩ | her
        · subst her
          have HGD := Lib.hid (And.intro hl64 (And.intro hnG (And.intro hrdG (fun p hp => Nat.le_trans HSW.out (hfrG p hp)))))
          have wy0 : IntKind.i64.wrap (y0 + 1) = y0 + 1 := IntWalk.i64_in _ (by omega)
          have z0 := HZ0.out
          clear hl64 hnG hrdG hfrG HGR
          go_upto_region 18 with (fail)
          refine region_z (S := fun w' => Mod (fun k => k = H) wk w') [] (by kernel_rfl) ((Mod.refl _ _).drew) (fun hHeld => ?_)
          have HOd := Lib.hid HOk.out.drew
          obtain ⟨wd, hwd⟩ : ∃ wd, wd = wk.drew := ⟨_, rfl⟩
          rw [← hwd] at hHeld HOd ⊢
          clear hwd
          refine zt (i := 0) (v := .pointer (some ⟨H, 0, none⟩)) [] (fun w' hSw => ?_) hHeld ?_
          · clear hHeld hSw
            go_simp
          simp only [Act.put, zl0, zl1, zl2, zl3, zl4, zl5]
          refine zt (i := 1) (v := .pointer (some ⟨H, 0, none⟩)) [] (fun w' hSw => ?_) hHeld ?_
          · clear hHeld hSw
            go_simp
          simp only [Act.put, zl0, zl1, zl2, zl3, zl4, zl5]
          refine zt (i := 2) (v := .slice aG nG cG) [] (fun w' hSw => ?_) hHeld ?_
          · clear hHeld hSw
            go_simp
          simp only [Act.put, zl0, zl1, zl2, zl3, zl4, zl5]
          refine zt (i := 3) (v := .pointer (some ⟨Y, 0, none⟩)) [] (fun w' hSw => ?_) hHeld ?_
          · clear hHeld hSw
            go_simp
          simp only [Act.put, zl0, zl1, zl2, zl3, zl4, zl5]
          refine zt (i := 4) (v := .int .i64 y0) [] (fun w' hSw => ?_) hHeld ?_
          · have z0' := (hSw.cell (zb z0) HYN.out).trans z0
            have lz0 := zb z0'
            dsimp only at lz0
            clear hHeld hSw
            go_simp
          simp only [Act.put, zl0, zl1, zl2, zl3, zl4, zl5]
          refine zt (i := 5) (v := .int .i64 (y0 + 1)) [] (fun w' hSw => ?_) hHeld ?_
          · clear hHeld hSw
            go_simp
            first | done | exact wy0 | (simp [wy0])
          simp only [Act.put, zl0, zl1, zl2, zl3, zl4, zl5]
          refine zt (i := 6) (v := .pointer (some ⟨H, 0, none⟩)) [] (fun w' hSw => ?_) hHeld ?_
          · clear hHeld hSw
            go_simp
          simp only [Act.put, zl0, zl1, zl2, zl3, zl4, zl5]
          refine zt (i := 7) (v := .pointer (some ⟨H, 9, none⟩)) [] (fun w' hSw => ?_) hHeld ?_
          · clear hHeld hSw
            go_simp
          simp only [Act.put, zl0, zl1, zl2, zl3, zl4, zl5]
          refine zo 8 (fun K' hK => ?_)
          have c9 := HOd.out.cell (i := 9) (by omega)
          have f9 := HOd.out.frozen 9
          have l9 := HOd.out.lt
          have HOe := Lib.hid (HOd.out.hfSet (i := 9) (by rw [hfL_len]; omega) (.slice aG nG cG))
          go_simp
          refine hK.out _ _ ?_ (fun hHeld' => ?_)
          · exact hHeld.setCell (p := ⟨H, 9, none⟩) (.inl rfl) _
          clear hK K' hHeld
          clear c9 f9 l9 HOd
          obtain ⟨we, hwe⟩ : ∃ we, we = wd.setCell ⟨H, 9, none⟩ (.slice aG nG cG) := ⟨_, rfl⟩
          rw [← hwe] at hHeld' HOe ⊢
          clear hwe
          have hHeld := hHeld'
          clear hHeld'
          try simp only [Act.put, zl0, zl1, zl2, zl3, zl4, zl5]
          refine zt (i := 9) (v := .pointer (some ⟨H, 0, none⟩)) [] (fun w' hSw => ?_) hHeld ?_
          · clear hHeld hSw
            go_simp
          simp only [Act.put, zl0, zl1, zl2, zl3, zl4, zl5]
          refine zt (i := 10) (v := .pointer (some ⟨H, 12, none⟩)) [] (fun w' hSw => ?_) hHeld ?_
          · clear hHeld hSw
            go_simp
          simp only [Act.put, zl0, zl1, zl2, zl3, zl4, zl5]
          refine zo 11 (fun K' hK => ?_)
          have c9 := HOe.out.cell (i := 12) (by omega)
          have f9 := HOe.out.frozen 12
          have l9 := HOe.out.lt
          have HOf := Lib.hid (HOe.out.hfSet (i := 12) (by rw [List.length_set, hfL_len]; omega) (.int .i64 (y0 + 1)))
          go_simp
          refine hK.out _ _ ?_ (fun hHeld' => ?_)
          · exact hHeld.setCell (p := ⟨H, 12, none⟩) (.inl rfl) _
          clear hK K' hHeld
          clear c9 f9 l9 HOe
          obtain ⟨wf, hwf⟩ : ∃ wf, wf = we.setCell ⟨H, 12, none⟩ (.int .i64 (y0 + 1)) := ⟨_, rfl⟩
          rw [← hwf] at hHeld' HOf ⊢
          clear hwf
          have hHeld := hHeld'
          clear hHeld'
          try simp only [Act.put, zl0, zl1, zl2, zl3, zl4, zl5]
          refine wpAnyZ_done (by kernel_rfl) ?_ _
          have HMf : Hid (Mod (fun k => k = H) w8 wf) := Lib.hid (HMk.out.trans hHeld)
          have HOf2 : Hid (Own wf H 44 15 (hfF (hfL n (decX x (ls ++ [⟨y0, y1, y2, y3, y4⟩]) rs' (y0 + 1)) { A' with aL := aG, nL := nG, cL := cG }))) := HOf
          have HXf : Hid (HfX B M N H n (decX x (ls ++ [⟨y0, y1, y2, y3, y4⟩]) rs' (y0 + 1)) { A' with aL := aG, nL := nG, cL := cG } wf) := Lib.hid (((HXk.out.leases (cL := cG) (y0 + 1) HGD.out.2.2.1 HGD.out.2.1.symm (apt_new HN.out (fun p hp => by have h1 := HGD.out.2.2.2 p hp; have h2 := HM8.out.size; have h3 := HSB.out; omega))) : HfX B M N H n (decX x (ls ++ [⟨y0, y1, y2, y3, y4⟩]) rs' (y0 + 1)) { A' with aL := aG, nL := nG, cL := cG } wk).hmod hn0 HMN.out hHeld)
          have HGf : Hid (GrOk n tick (y0 + 1) x.num v l1 (j + 1) (ls ++ [⟨y0, y1, y2, y3, y4⟩])) := Lib.hid (HGr.out.grant HYO.out (HGr.out.fr HL.out.2.1) HYI.out.1 HYI.out.2.1 HYI.out.2.2 HGD.out.1)
          clear hHeld z0 HOf HOk HXk HMk HGr HGD HZ0 wy0
          go_wp2_with fail
          go_roundg (nM - (j + 1))
          case measure => omega
          case rel => exact ⟨j + 1, _, _, _, by go_num, by omega, by omega, HOf2, HXf, HGf, HMf⟩
        · subst her
          have HGf := Lib.hid HGr.out.pass
          clear HGR HGr HZ0
          go_wp2_with fail
          go_roundg (nM - (j + 1))
          case measure => omega
          case rel => exact ⟨j + 1, _, _, _, by go_num, by omega, by omega, HOk, HXk, HGf, HMk⟩
      · have hltz : ¬ (j : Int) < (nM : Int) := by omega
        have HD : Hid (DecOk n tick x ls rs' nu) := Lib.hid (by
          have h1 := HGr.out
          have h2 := HFIN.out.2.2.2
          rw [HL1.out] at h1 h2
          rw [HHV.out] at h2
          exact GrOk.fin OK.out h1 (by have := HML.out; omega) HFIN.out.2.2.1 h2)
        have HMe := Lib.hid (HM8.out.trans HMr.out)
        go_wp2_with fail
        go_ret
        exact ⟨rfl, A', ls, rs', nu, HOr.out, HXr.out, HD.out, HMe.out⟩
end Go.Proofs.YtkbbapefgifagaaGreatDoor
