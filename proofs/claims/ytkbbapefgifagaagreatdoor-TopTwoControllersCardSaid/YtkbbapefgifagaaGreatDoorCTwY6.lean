/-
Two controllers: control.Decide.
-/
import Derived.Test.YtkbbapefgifagaaGreatDoorCTwY5
namespace Go.Proofs.YtkbbapefgifagaaGreatDoor
open Go.RowKit
set_option linter.unusedVariables false
set_option linter.unusedSimpArgs false
theorem appInfoRmp : (Tryz.prog.info? 76).map (fun i => (i.zero, i.size, i.bytes)) = some (some (.agg #[.int .i64 0, .int .i64 0]), 2, 16) := by kernel_rfl
theorem mk_rmps (n : Nat) (h : n ≤ 1000000) (W : World) : ∃ W', (Instr.makeSlice 41 (.int .i64 n) (.int .i64 n)).run Tryz.prog W = .ok (.slice (some ⟨W.heap.size, 0, none⟩) n n) W' ∧ Own W' W.heap.size 76 (n * 2) (fun _ => .int .i64 0) ∧ Below W.heap.size W W' ∧ W'.heap.size = W.heap.size + 1 := by
  refine ⟨_, mk_row 41 76 _ 2 16 Tryz.underlying41 appInfoRmp (n : Int) (by omega) (by omega) (by omega) W, ?_, (Below.refl _ W).alloc (Nat.le_refl _) _, by simp⟩
  have h := Own.made W 76 #[.int .i64 0, .int .i64 0] (n * 2)
  refine h.congr (fun i _ => ?_)
  have h3 : i % 2 = 0 ∨ i % 2 = 1 := by omega
  rcases h3 with e | e <;> simp [e]
theorem Own.rmp (W : World) (a b : Int) : Own (W.alloc (.cells #[.int .i64 a, .int .i64 b] 76)) W.heap.size 76 2 (rmF a b) :=
  Own.newAt _ 76 _ _ rfl (n := 2) rfl (fun i hi => by
    have h : i = 0 ∨ i = 1 := by omega
    rcases h with rfl | rfl <;> rfl)
theorem rmF_set {W : World} {X : Nat} {a0 b0 : Int} (h : Own W X 76 2 (rmF a0 b0)) (a b : Int) : Own ((W.setCell ⟨X, 0, none⟩ (.int .i64 a)).setCell ⟨X, 1, none⟩ (.int .i64 b)) X 76 2 (rmF a b) :=
  ((h.set 0 _).set 1 _).congr (fun i hi => by
    have h : i = 0 ∨ i = 1 := by omega
    rcases h with rfl | rfl <;> rfl)
/-- The new ramps, up to a charger. -/
def rowR (rs : Nat → Rmp) (k : Nat) : Nat → Value := fun j => if j < k * 2 then (if j % 2 = 0 then .int .i64 (rs (j / 2)).amp else .int .i64 (rs (j / 2)).snc) else .int .i64 0
def setR (rs : Nat → Rmp) (k : Nat) (r : Rmp) : Nat → Rmp := fun i => if i = k then r else rs i
theorem rowR_snoc (rs : Nat → Rmp) (k : Nat) (r : Rmp) (j : Nat) : (if j = k * 2 + 1 then Value.int .i64 r.snc else if j = k * 2 then .int .i64 r.amp else rowR rs k j) = rowR (setR rs k r) (k + 1) j := by
  unfold rowR setR
  by_cases e1 : j = k * 2 + 1
  · subst e1
    rw [if_pos rfl, if_pos (by omega), if_neg (by omega), show (k * 2 + 1) / 2 = k from by omega, if_pos rfl]
  · rw [if_neg e1]
    by_cases e2 : j = k * 2
    · subst e2
      rw [if_pos rfl, if_pos (by omega), if_pos (by omega), show (k * 2) / 2 = k from by omega, if_pos rfl]
    · rw [if_neg e2]
      by_cases e3 : j < k * 2
      · rw [if_pos e3, if_pos (show j < (k + 1) * 2 by omega), if_neg (show ¬ j / 2 = k by omega)]
      · rw [if_neg e3, if_neg (by omega)]
theorem curR_snoc (rs : Nat → Rmp) (k : Nat) (r : Rmp) (j : Nat) : (if j = k then Value.int .i64 r.amp else if j < k then .int .i64 (rs j).amp else .int .i64 0) = if j < k + 1 then .int .i64 (setR rs k r j).amp else .int .i64 0 := by
  unfold setR
  by_cases e1 : j = k
  · rw [if_pos e1, if_pos (by omega), if_pos e1]
  · rw [if_neg e1, if_neg e1]
    by_cases e2 : j < k
    · rw [if_pos e2, if_pos (by omega)]
    · rw [if_neg e2, if_neg (by omega)]
theorem results_tmpD4 {fn : Func} {t u v x : Tmp} (h : fn.results = #[.tmp t, .tmp u, .tmp v, .tmp x]) (tmps : Array Value) (P : Program) (w : World) :
    (results fn tmps).run P w = .ok (.tuple #[tmps.getD t undef, tmps.getD u undef, tmps.getD v undef, tmps.getD x undef]) w := by
  simp [results, h]
theorem Mod.thenBelow {M : Nat → Prop} {a b c : World} {B : Nat} (h : Mod M a b) (k : Below B b c) (hB : a.heap.size ≤ B) : Mod M a c :=
  ⟨k.os.trans h.os, k.tape.trans h.tape, k.output.trans h.output, Nat.le_trans h.size k.size, fun j hj hn => (k.block j (by omega)).trans (h.block j hj hn)⟩
theorem ownLs_mod {M : Nat → Prop} {w w' : World} {base : Nat} {v : Value} {xs : List Lse} (h : OwnLs w base v xs) (hm : Mod M w w') (hn : ∀ k, M k → k < base) : OwnLs w' base v xs :=
  OwnR.mod h hm (fun k hk hM => by have := hn k hM; have := (World.ownsRow.lt h k hk).1; omega)
/-- The leases that Decide gives. -/
def MoOk (num tick : Int) (v : Nat → Int) (n : Nat) (mo : List Lse) : Prop :=
  ∀ (j : Nat) (x : Lse), mo[j]? = some x → x.num = num + (j : Int) ∧ x.frm = tick ∧ x.tck = 12 ∧ ∃ i : Nat, i < n ∧ x.chg = (i : Int) ∧ 0 ≤ x.amp ∧ x.amp ≤ v i
theorem MoOk.snoc {num tick : Int} {v : Nat → Int} {k : Nat} {mo : List Lse} {x : Lse} (h : MoOk num tick v k mo) (h1 : x.num = num + (mo.length : Int)) (h2 : x.frm = tick) (h3 : x.tck = 12) (h4 : x.chg = (k : Int)) (h5 : 0 ≤ x.amp) (h6 : x.amp ≤ v k) : MoOk num tick v (k + 1) (mo ++ [x]) := by
  intro j y hy
  by_cases hj : j < mo.length
  · rw [List.getElem?_append_left hj] at hy
    obtain ⟨a, b, c, i, hi, d⟩ := h j y hy
    exact ⟨a, b, c, i, by omega, d⟩
  · rw [List.getElem?_append_right (by omega)] at hy
    have hj2 : j = mo.length := by
      have := (List.getElem?_eq_some_iff.1 hy).1
      simp at this
      omega
    subst hj2
    simp at hy
    subst hy
    exact ⟨h1, h2, h3, k, by omega, h4, h5, h6⟩
theorem MoOk.wide {num tick : Int} {v : Nat → Int} {k : Nat} {mo : List Lse} (h : MoOk num tick v k mo) : MoOk num tick v (k + 1) mo := fun j x hx => by
  obtain ⟨a, b, c, i, hi, d⟩ := h j x hx
  exact ⟨a, b, c, i, by omega, d⟩
def DecPost (n : Nat) (tick num cap : Int) (ls : List Lse) (rs : Nat → Rmp) (w : World) (e : Ending) (w' : World) : Prop :=
  ∃ (GC GN : Nat) (aM : Option Addr) (nM cM : Nat) (mo : List Lse) (v : Nat → Int) (rs' : Nat → Rmp), e = .returned (.tuple #[.slice (some ⟨GC, 0, none⟩) n n, .slice (some ⟨GN, 0, none⟩) n n, .slice aM nM cM, .int .i64 0]) ∧
    w.heap.size ≤ GN ∧ RmC GN 0 n rs' w' ∧ (∀ i, i < n → (rs' i).snc ≤ (rs i).snc + 1) ∧ Rd 5 encLse w' aM mo ∧ (∀ p, aM = some p → w.heap.size ≤ p.block) ∧ mo.length = nM ∧ nM ≤ n ∧ MoOk num tick v n mo ∧
    (∀ i, i < n → 0 ≤ v i ∧ v i ≤ 32) ∧ sumN (fun i => max (alvF (exL tick ls) i) (v i)) n ≤ max cap (sumN (alvF (exL tick ls)) n) ∧ Below w.heap.size w w'
set_option maxRecDepth 100000 in
set_option maxHeartbeats 16000000 in
theorem coDecide_ok (a1 a2 a3 a5 aL : Option Addr) (n1 c1 n2 c2 n3 c3 bC oC c4 n5 c5 nL cL bD oD cD bR oR cR n : Nat) (tick num : Int) (s : GSite) (cap : Int) (ls : List Lse) (wa : Nat → Bool) (rs : Nat → Rmp) (w : World) (HS : Hid (RdSite w a1 a2 a3 (some ⟨bC, oC, none⟩) a5 n1 n2 n3 n n5 s)) (HP : Hid (ParkS s n cap)) (HD : Hid (DmOk bD oD n wa w)) (HX : Hid (Rd 5 encLse w aL ls)) (HNL : Hid (ls.length = nL)) (HO : Hid (LsOk ls)) (HFT : Hid (∀ x ∈ ls, x.frm ≤ tick)) (HCG : Hid (∀ x ∈ ls, x.chg < (n : Int)))
    (HRM : Hid (RmC bR oR n rs w)) (HRS : Hid (∀ i, i < n → (rs i).snc ≤ 1000)) (HT : Hid (hapT w)) (ht : 0 ≤ tick ∧ tick ≤ 100000) (hm0 : 1 ≤ num) (hm1 : num ≤ 999900) :
    Calls Tryz.prog 24 #[.agg #[.slice a1 n1 c1, .slice a2 n2 c2, .slice a3 n3 c3, .slice (some ⟨bC, oC, none⟩) n c4, .slice a5 n5 c5], .slice aL nL cL, .slice (some ⟨bR, oR, none⟩) n cR, .slice (some ⟨bD, oD, none⟩) n cD, .int .i64 tick, .int .i64 num] w (DecPost n tick num cap ls rs w) := by
  have hn4 : n ≤ 4 := HP.out.n4
  have hn0 : 0 < n := HP.out.n0
  have hn64 : nL ≤ 64 := by rw [← HNL.out]; exact HO.out.len
  obtain ⟨W0, hW0⟩ : ∃ W, W = w.alloc (.cells #[.slice a1 n1 c1, .slice a2 n2 c2, .slice a3 n3 c3, .slice (some ⟨bC, oC, none⟩) n c4, .slice a5 n5 c5] 39) := ⟨_, rfl⟩
  obtain ⟨B, hB⟩ : ∃ B, B = w.heap.size := ⟨_, rfl⟩
  have hb0 : Below w.heap.size w W0 := by rw [hW0]; exact (Below.refl _ _).alloc (Nat.le_refl _) _
  obtain ⟨k0, k1, k2, k3, k4⟩ : W0.cell? ⟨B, 0, none⟩ = some (.slice a1 n1 c1) ∧ W0.cell? ⟨B, 1, none⟩ = some (.slice a2 n2 c2) ∧ W0.cell? ⟨B, 2, none⟩ = some (.slice a3 n3 c3) ∧ W0.cell? ⟨B, 3, none⟩ = some (.slice (some ⟨bC, oC, none⟩) n c4) ∧ W0.cell? ⟨B, 4, none⟩ = some (.slice a5 n5 c5) := by rw [hW0, hB]; exact ⟨by go_simp, by go_simp, by go_simp, by go_simp, by go_simp⟩
  have HB0 := Lib.hid hb0
  have HW0 := Lib.hid (And.intro hW0.symm hB.symm)
  clear hb0 hW0 hB
  go_enter Tryz.func24, Tryz.ntmps24
  go_upto_region 1 with (fail)
  try simp only [World.size_alloc]
  rw [HW0.out.1, HW0.out.2]
  clear HW0
  refine region_z (S := fun w' => Below W0.heap.size W0 w') [] (by kernel_rfl) ((Below.refl _ _).drew) (fun hHeld => ?_)
  refine zt (i := 0) (v := .agg #[.slice a1 n1 c1, .slice a2 n2 c2, .slice a3 n3 c3, .slice (some ⟨bC, oC, none⟩) n c4, .slice a5 n5 c5]) [] (fun w' hSw => ?_) hHeld ?_
  · have s0' := (hSw.cell (zb k0)).trans k0
    have ls0 := zb s0'
    dsimp only at ls0
    have s1' := (hSw.cell (zb k1)).trans k1
    have ls1 := zb s1'
    dsimp only at ls1
    have s2' := (hSw.cell (zb k2)).trans k2
    have ls2 := zb s2'
    dsimp only at ls2
    have s3' := (hSw.cell (zb k3)).trans k3
    have ls3 := zb s3'
    dsimp only at ls3
    have s4' := (hSw.cell (zb k4)).trans k4
    have ls4 := zb s4'
    dsimp only at ls4
    clear hHeld hSw
    go_simp
  simp only [Act.put, zl0, zl1, zl2, zl3, zl4, zl5]
  refine zt (i := 1) (v := .slice aL nL cL) [] (fun w' hSw => ?_) hHeld ?_
  · clear hHeld hSw
    go_simp
  simp only [Act.put, zl0, zl1, zl2, zl3, zl4, zl5]
  refine zt (i := 2) (v := .slice (some ⟨bD, oD, none⟩) n cD) [] (fun w' hSw => ?_) hHeld ?_
  · clear hHeld hSw
    go_simp
  simp only [Act.put, zl0, zl1, zl2, zl3, zl4, zl5]
  refine zt (i := 3) (v := .int .i64 tick) [] (fun w' hSw => ?_) hHeld ?_
  · clear hHeld hSw
    go_simp
  simp only [Act.put, zl0, zl1, zl2, zl3, zl4, zl5]
  refine zt (i := 4) (v := .slice (some ⟨bD, oD, none⟩) n cD) [] (fun w' hSw => ?_) hHeld ?_
  · clear hHeld hSw
    go_simp
  simp only [Act.put, zl0, zl1, zl2, zl3, zl4, zl5]
  refine zt (i := 5) (v := .int .i64 tick) [] (fun w' hSw => ?_) hHeld ?_
  · clear hHeld hSw
    go_simp
  simp only [Act.put, zl0, zl1, zl2, zl3, zl4, zl5]
  refine zo 6 (fun K' hK => ?_)
  go_simp
  refine (coOrder_ok bD oD cD n tick wa _ (Lib.hid (HD.out.keep (below_then HB0.out hHeld))) hn0 hn4 ht).mono ?_
  rintro e wk ⟨GO, f, rfl, hG, hc, hb, hi, hbk⟩
  have HOR := Lib.hid (And.intro (Nat.le_trans (Nat.le_trans HB0.out.size hHeld.size) hG) (And.intro hc (And.intro hb hi)))
  refine hK.out _ _ ?_ (fun hHeld' => ?_)
  · exact hHeld.trans (hbk.mono hHeld.size)
  clear hK K' hHeld hbk hG hc hb hi
  have hHeld := hHeld'
  clear hHeld'
  try simp only [Act.put, zl0, zl1, zl2, zl3, zl4, zl5]
  refine zt (i := 7) (v := .agg #[.slice a1 n1 c1, .slice a2 n2 c2, .slice a3 n3 c3, .slice (some ⟨bC, oC, none⟩) n c4, .slice a5 n5 c5, .slice aL nL cL, .slice (some ⟨bD, oD, none⟩) n cD, .int .i64 tick, .slice (some ⟨GO, 0, none⟩) n n]) [] (fun w' hSw => ?_) hHeld ?_
  · clear hHeld hSw
    go_simp
  simp only [Act.put, zl0, zl1, zl2, zl3, zl4, zl5]
  refine zo 8 (fun K' hK => ?_)
  go_simp
  refine hK.out _ _ ?_ (fun hHeld' => ?_)
  · exact hHeld.alloc hHeld.size _
  clear hK K'
  obtain ⟨W1, hW1⟩ : ∃ W, W = wk.alloc (.cells #[.slice a1 n1 c1, .slice a2 n2 c2, .slice a3 n3 c3, .slice (some ⟨bC, oC, none⟩) n c4, .slice a5 n5 c5, .slice aL nL cL, .slice (some ⟨bD, oD, none⟩) n cD, .int .i64 tick, .slice (some ⟨GO, 0, none⟩) n n] 118) := ⟨_, rfl⟩
  obtain ⟨C, hC⟩ : ∃ C, C = wk.heap.size := ⟨_, rfl⟩
  have HBX := Lib.hid hHeld
  rw [← hC]
  rw [← hW1] at hHeld' ⊢
  have hbx : Below wk.heap.size wk W1 := by rw [hW1]; exact (Below.refl _ _).alloc (Nat.le_refl _) _
  have HDC : Hid (DcC C n1 c1 n2 c2 n3 c3 bC oC c4 n5 c5 nL cL bD oD cD GO 0 n n a1 a2 a3 a5 aL tick W1) := Lib.hid (by rw [hW1, hC]; exact ⟨by go_simp, by go_simp, by go_simp, by go_simp, by go_simp, by go_simp, by go_simp, by go_simp, by go_simp⟩)
  have HOR1 := Lib.hid (And.intro HOR.out.1 (And.intro (fun i hi => (hbx.cell (zb (HOR.out.2.1 i hi))).trans (HOR.out.2.1 i hi)) HOR.out.2.2))
  have HCB : Hid (w.heap.size ≤ C) := Lib.hid (by rw [hC]; exact Nat.le_trans HB0.out.size HBX.out.size)
  clear hW1 hC hbx HBX HOR
  clear hHeld
  have hHeld := hHeld'
  clear hHeld'
  try simp only [Act.put, zl0, zl1, zl2, zl3, zl4, zl5]
  refine zt (i := 9) (v := .pointer (some ⟨C, 0, none⟩)) [] (fun w' hSw => ?_) hHeld ?_
  · clear hHeld hSw
    go_simp
  simp only [Act.put, zl0, zl1, zl2, zl3, zl4, zl5]
  refine wpAnyZ_done (by kernel_rfl) ?_ _
  have HB1 := Lib.hid (below_then HB0.out hHeld)
  clear hHeld k0 k1 k2 k3 k4
  go_wp2_with fail
  refine (coValid_ok C n1 c1 n2 c2 n3 c3 bC oC c4 n5 c5 nL cL bD oD cD GO 0 n n a1 a2 a3 a5 aL tick bR oR cR s cap num ls wa rs W1 HDC (Lib.hid (HS.out.keep HB1.out)) HP (Lib.hid (HD.out.keep HB1.out)) (Lib.hid (HX.out.keep HB1.out)) HNL HO HCG (Lib.hid (HRM.out.keep HB1.out)) (by omega) (by omega) hm0 hm1).mono ?_
  rintro e w2 ⟨rfl, hb2⟩
  have HB2 := Lib.hid (below_then HB1.out hb2)
  have HDC2 := Lib.hid (HDC.out.keep hb2)
  have HOR2 : Hid (∀ i, i < n → w2.cell? ⟨GO, 0 + i, none⟩ = some (.int .i64 (f i))) := Lib.hid (fun i hi => by rw [Nat.zero_add]; exact (hb2.cell (zb (HOR1.out.2.1 i hi))).trans (HOR1.out.2.1 i hi))
  clear hb2 HDC HB1
  go_wp2_with fail
  refine (coOffers_ok C n1 c1 n2 c2 n3 c3 bC oC c4 n5 c5 nL cL bD oD cD GO 0 n n a1 a2 a3 a5 aL tick s cap ls wa f w2 HDC2 (Lib.hid (HS.out.keep HB2.out)) HP (Lib.hid (HD.out.keep HB2.out)) (Lib.hid (HX.out.keep HB2.out)) HNL HO HFT HCG (by omega) (by omega) HOR2 (Lib.hid HOR1.out.2.2.1) (Lib.hid HOR1.out.2.2.2)).mono ?_
  rintro e w3 ⟨G, v, rfl, hG, hO, hv, hsum, hb3⟩
  have HB3 := Lib.hid (below_then HB2.out hb3)
  have HDC3 := Lib.hid (HDC2.out.keep hb3)
  have HGO := Lib.hid hO
  have HV := Lib.hid (And.intro (fun i hi => (And.intro (hv i hi).1 (hv i hi).2.2 : 0 ≤ v i ∧ v i ≤ 32)) hsum)
  clear hb3 hG hO hv hsum HOR1 HOR2 HDC2 HB2
  obtain ⟨w4, hmk4, hown4, hb4, hs4⟩ := mk_ints n (by omega) w3
  obtain ⟨w5, hmk5, hown5, hb5, hs5⟩ := mk_rmps n (by omega) w4
  obtain ⟨GC, hGC⟩ : ∃ g, g = w3.heap.size := ⟨_, rfl⟩
  obtain ⟨GN, hGN⟩ : ∃ g, g = w4.heap.size := ⟨_, rfl⟩
  rw [← hGC] at hmk4 hown4 hs4
  rw [← hGN] at hmk5 hown5 hs5
  have HGC : Hid (Own w5 GC 3 n (fun _ => .int .i64 0)) := Lib.hid (hown4.keep hb5 hown4.lt)
  have HGN := Lib.hid hown5
  have HB35 : Hid (Below w3.heap.size w3 w5) := Lib.hid (below_then hb4 hb5)
  have HSZ : Hid (GC < GN ∧ w5.heap.size = GN + 1 ∧ w3.heap.size ≤ GC) := Lib.hid ⟨by omega, hs5, by rw [hGC]; exact Nat.le_refl _⟩
  have k3 := (HDC3.out.keep HB35.out).k3
  have lC := zb k3
  dsimp only at lC
  have HCH3 : Hid (ChC bC oC n s w3) := Lib.hid (ChC.keep (fun i hi => park_cells HS.out.r4 HS.out.l4 HP.out hi) HB3.out)
  have HRM3 := Lib.hid (HRM.out.keep HB3.out)
  have HX3 := Lib.hid (HX.out.keep HB3.out)
  clear hown4 hb4 hs4 hown5 hb5 hs5 hGC hGN HCB HS HD HX HRM
  go_wp2_with fail
  clear hmk4 hmk5 k3 lC
  go_loopg [5, 21, 59] (n + 1) (fun g1 v5 v21 v59 wr => ∃ (k : Nat) (va : Option Addr) (vn vc : Nat) (rs' : Nat → Rmp) (mo : List Lse), v5 = .int .i64 (num + (mo.length : Int)) ∧ v21 = .slice va vn vc ∧ v59 = .int .i64 (k : Nat) ∧ k ≤ n ∧ n - k ≤ g1 ∧ mo.length ≤ k ∧ Hid (OwnLs wr w5.heap.size (.slice va vn vc) mo) ∧ Hid (MoOk num tick v k mo) ∧ Hid (Own wr GC 3 n (fun j => if j < k then .int .i64 (rs' j).amp else .int .i64 0)) ∧ Hid (Own wr GN 76 (n * 2) (rowR rs' k)) ∧ Hid (∀ j, j < k → RmOk (rs' j) ∧ (rs' j).snc ≤ (rs j).snc + 1) ∧ Hid (Mod (fun j => j = GC ∨ j = GN) w5 wr))
  case atStart => exact ⟨0, none, 0, 0, fun _ => ⟨0, 0⟩, [], by simp, rfl, by go_num, by omega, by omega, by simp, Lib.hid (OwnR.nil _ _), Lib.hid (fun j x hx => by simp at hx), Lib.hid (HGC.out.congr (fun j _ => by rw [if_neg (by omega)])), Lib.hid (HGN.out.congr (fun j _ => by unfold rowR; rw [if_neg (by omega)])), Lib.hid (fun j hj => by omega), Lib.hid (Mod.refl _ _)⟩
  case round =>
    clear HGC HGN
    obtain ⟨k, va, vn, vc, rs', mo, rfl, rfl, rfl, hk, hg1, hml, HOL, HMO, HGC, HGN, HRR, HMr⟩ := hrel
    have HB3r : Hid (Below w3.heap.size w3 wr) := Lib.hid (HB35.out.trans (HMr.out.below (B := w3.heap.size) HB35.out.size (fun j _ e => by have := HSZ.out; omega)))
    by_cases hkn : k < n
    · have hkz : (k : Int) < (n : Int) := by omega
      obtain ⟨g0, g1, g2', g3, g4, g5, g6, g7⟩ := (HCH3.out.keep HB3r.out) k hkn
      have lC : bC < wr.heap.size := zb g0
      obtain ⟨WA, hWA⟩ : ∃ W, W = wr.alloc (.cells #[.string (nmF s k), .int .i64 0, .int .i64 1, .int .i64 6, .int .i64 32, .int .i64 2, .int .i64 0, .int .i64 0] 59) := ⟨_, rfl⟩
      obtain ⟨A, hA⟩ : ∃ A, A = wr.heap.size := ⟨_, rfl⟩
      have hbA : Below wr.heap.size wr WA := by rw [hWA]; exact (Below.refl _ _).alloc (Nat.le_refl _) _
      obtain ⟨z0, z1, z2, z3, z4, z5, z6, z7⟩ : WA.cell? ⟨A, 0, none⟩ = some (.string (nmF s k)) ∧ WA.cell? ⟨A, 1, none⟩ = some (.int .i64 0) ∧ WA.cell? ⟨A, 2, none⟩ = some (.int .i64 1) ∧ WA.cell? ⟨A, 3, none⟩ = some (.int .i64 6) ∧ WA.cell? ⟨A, 4, none⟩ = some (.int .i64 32) ∧ WA.cell? ⟨A, 5, none⟩ = some (.int .i64 2) ∧ WA.cell? ⟨A, 6, none⟩ = some (.int .i64 0) ∧ WA.cell? ⟨A, 7, none⟩ = some (.int .i64 0) := by rw [hWA, hA]; exact ⟨by go_simp, by go_simp, by go_simp, by go_simp, by go_simp, by go_simp, by go_simp, by go_simp⟩
      have HB3A := Lib.hid (below_then HB3r.out hbA)
      have HOLA := Lib.hid (HOL.out.keep hbA)
      have HGCA := Lib.hid (HGC.out.keep hbA HGC.out.lt)
      have HGNA := Lib.hid (HGN.out.keep hbA HGN.out.lt)
      have HMA : Hid (Mod (fun j => j = GC ∨ j = GN) w5 WA) := Lib.hid (HMr.out.trans ((Mod.of_below hbA).mono (fun j hj h => by omega)))
      have hr := (HRM3.out.keep HB3A.out) k hkn
      have r0 := hr.1
      have r1 := hr.2.1
      have HRK := Lib.hid (And.intro hr.2.2 (HRS.out k hkn))
      have o0 : WA.cell? ⟨G, k, none⟩ = some (.int .i64 (v k)) := (HGO.out.keep HB3A.out HGO.out.lt).cell hkn
      have HVK : Hid (0 ≤ v k ∧ v k ≤ 80) := Lib.hid (by have := HV.out.1 k hkn; constructor <;> omega)
      have HTT : Hid (hapT WA) := Lib.hid (fun i hi => ((below_then HB3.out HB3A.out).cell (zb (HT.out i hi))).trans (HT.out i hi))
      have HWA := Lib.hid (And.intro hWA.symm hA.symm)
      clear hbA hWA hA hr HOL HGC HGN HMr HB3r
      go_upto_region 13 with (fail)
      try simp only [World.size_alloc]
      rw [HWA.out.1, HWA.out.2]
      clear HWA g0 g1 g2' g3 g4 g5 g6 g7 lC
      go_cut [24, 25] (fun v24 v25 wx => ∃ (X : Nat) (r' : Rmp), v24 = .pointer (some ⟨X, 0, none⟩) ∧ v25 = .int .i64 0 ∧ Hid (Own wx X 76 2 (rmF r'.amp r'.snc)) ∧ Hid (WA.heap.size ≤ X) ∧ Hid (RmOk r' ∧ r'.snc ≤ (rs k).snc + 1 ∧ 0 ≤ r'.amp ∧ r'.amp ≤ v k) ∧ Hid (Below WA.heap.size WA wx))
      case first =>
        refine region_z (S := fun w' => Below WA.heap.size WA w') [] (by kernel_rfl) ((Below.refl _ _).drew) (fun hHeld => ?_)
        obtain ⟨wd, hwd⟩ : ∃ wd, wd = WA.drew := ⟨_, rfl⟩
        rw [← hwd] at hHeld ⊢
        clear hwd
        refine zt (i := 0) (v := .agg #[.string (nmF s k), .int .i64 0, .int .i64 1, .int .i64 6, .int .i64 32, .int .i64 2, .int .i64 0, .int .i64 0]) [] (fun w' hSw => ?_) hHeld ?_
        · have z0' := (hSw.cell (zb z0)).trans z0
          have lz0 := zb z0'
          dsimp only at lz0
          have z1' := (hSw.cell (zb z1)).trans z1
          have lz1 := zb z1'
          dsimp only at lz1
          have z2' := (hSw.cell (zb z2)).trans z2
          have lz2 := zb z2'
          dsimp only at lz2
          have z3' := (hSw.cell (zb z3)).trans z3
          have lz3 := zb z3'
          dsimp only at lz3
          have z4' := (hSw.cell (zb z4)).trans z4
          have lz4 := zb z4'
          dsimp only at lz4
          have z5' := (hSw.cell (zb z5)).trans z5
          have lz5 := zb z5'
          dsimp only at lz5
          have z6' := (hSw.cell (zb z6)).trans z6
          have lz6 := zb z6'
          dsimp only at lz6
          have z7' := (hSw.cell (zb z7)).trans z7
          have lz7 := zb z7'
          dsimp only at lz7
          clear hHeld hSw
          go_simp
        simp only [Act.put, zl0, zl1, zl2, zl3, zl4, zl5]
        refine zt (i := 1) (v := .slice (some ⟨bR, oR, none⟩) n cR) [] (fun w' hSw => ?_) hHeld ?_
        · clear hHeld hSw
          go_simp
        simp only [Act.put, zl0, zl1, zl2, zl3, zl4, zl5]
        refine zt (i := 2) (v := .int .i64 (k : Nat)) [] (fun w' hSw => ?_) hHeld ?_
        · clear hHeld hSw
          go_simp
        simp only [Act.put, zl0, zl1, zl2, zl3, zl4, zl5]
        refine zt (i := 3) (v := .pointer (some ⟨bR, oR + k * 2, none⟩)) [] (fun w' hSw => ?_) hHeld ?_
        · clear hHeld hSw
          go_simp
        simp only [Act.put, zl0, zl1, zl2, zl3, zl4, zl5]
        refine zt (i := 4) (v := .agg #[.int .i64 (rs k).amp, .int .i64 (rs k).snc]) [] (fun w' hSw => ?_) hHeld ?_
        · have r0' := (hSw.cell (zb r0)).trans r0
          have lr0 := zb r0'
          dsimp only at lr0
          have r1' := (hSw.cell (zb r1)).trans r1
          have lr1 := zb r1'
          dsimp only at lr1
          clear hHeld hSw
          go_simp
        simp only [Act.put, zl0, zl1, zl2, zl3, zl4, zl5]
        refine zt (i := 5) (v := .slice (some ⟨G, 0, none⟩) n n) [] (fun w' hSw => ?_) hHeld ?_
        · clear hHeld hSw
          go_simp
        simp only [Act.put, zl0, zl1, zl2, zl3, zl4, zl5]
        refine zt (i := 6) (v := .int .i64 (k : Nat)) [] (fun w' hSw => ?_) hHeld ?_
        · clear hHeld hSw
          go_simp
        simp only [Act.put, zl0, zl1, zl2, zl3, zl4, zl5]
        refine zt (i := 7) (v := .pointer (some ⟨G, k, none⟩)) [] (fun w' hSw => ?_) hHeld ?_
        · clear hHeld hSw
          go_simp
        simp only [Act.put, zl0, zl1, zl2, zl3, zl4, zl5]
        refine zt (i := 8) (v := .int .i64 (v k)) [] (fun w' hSw => ?_) hHeld ?_
        · have o0' := (hSw.cell (zb o0)).trans o0
          have lo0 := zb o0'
          dsimp only at lo0
          clear hHeld hSw
          go_simp
        simp only [Act.put, zl0, zl1, zl2, zl3, zl4, zl5]
        refine wpAnyZ_two (i := 9) (k := 13) (by kernel_rfl) rfl rfl (fun K' hK => ?_) (fun K' hK => ?_)
        · go_simp
          refine (rmNext_ok (nmF s k) (rs k) (v k) _ HRK.out.1 HRK.out.2 HVK.out.1 HVK.out.2 (Lib.hid (fun i hi => (hHeld.cell (zb (HTT.out i hi))).trans (HTT.out i hi)))).mono ?_
          rintro e wk ⟨r', rfl, hr', hbk⟩
          have HR' := Lib.hid hr'
          refine hK.out _ _ ?_ (fun hHeld' => ?_)
          · exact hHeld.trans (hbk.mono hHeld.size)
          clear hK K' hr'
          clear hHeld hbk
          have hHeld := hHeld'
          clear hHeld'
          try simp only [Act.put, zl0, zl1, zl2, zl3, zl4, zl5]
          refine zt (i := 10) (v := .tuple #[.agg #[.int .i64 r'.amp, .int .i64 r'.snc], .int .i64 0]) [] (fun w' hSw => ?_) hHeld ?_
          · clear hHeld hSw
            go_simp
          simp only [Act.put, zl0, zl1, zl2, zl3, zl4, zl5]
          refine zt (i := 11) (v := .agg #[.int .i64 r'.amp, .int .i64 r'.snc]) [] (fun w' hSw => ?_) hHeld ?_
          · clear hHeld hSw
            go_simp
          simp only [Act.put, zl0, zl1, zl2, zl3, zl4, zl5]
          refine zt (i := 12) (v := .int .i64 0) [] (fun w' hSw => ?_) hHeld ?_
          · clear hHeld hSw
            go_simp
          simp only [Act.put, zl0, zl1, zl2, zl3, zl4, zl5]
          refine zo 13 (fun K' hK => ?_)
          go_simp
          refine hK.out _ _ ?_ (fun hHeld' => ?_)
          · exact hHeld.alloc hHeld.size _
          clear hK K'
          obtain ⟨WB, hWB⟩ : ∃ W, W = wk.alloc (.cells #[.int .i64 0, .int .i64 0] 76) := ⟨_, rfl⟩
          obtain ⟨X, hX⟩ : ∃ X, X = wk.heap.size := ⟨_, rfl⟩
          have HXS : Hid (WA.heap.size ≤ X) := Lib.hid (by rw [hX]; exact hHeld.size)
          have HX : Hid (Own WB X 76 2 (rmF 0 0)) := Lib.hid (by rw [hWB, hX]; exact Own.rmp _ 0 0)
          rw [← hX]
          rw [← hWB] at hHeld' ⊢
          clear hWB hX hHeld
          have hHeld := hHeld'
          clear hHeld'
          try simp only [Act.put, zl0, zl1, zl2, zl3, zl4, zl5]
          refine zo 14 (fun K' hK => ?_)
          have x0 := HX.out.cell (i := 0) (by omega)
          have x1 := HX.out.cell (i := 1) (by omega)
          have f0 := HX.out.frozen 0
          have f1 := HX.out.frozen 1
          have lX := HX.out.lt
          have HX2 := Lib.hid (rmF_set HX.out r'.amp r'.snc)
          go_simp
          refine hK.out _ _ ?_ (fun hHeld' => ?_)
          · exact (hHeld.setCell (p := ⟨X, 0, none⟩) HXS.out _).setCell (p := ⟨X, 1, none⟩) HXS.out _
          clear hK K' hHeld x0 x1 f0 f1 lX HX
          have hHeld := hHeld'
          clear hHeld'
          try simp only [Act.put, zl0, zl1, zl2, zl3, zl4, zl5]
          refine zt (i := 15) (v := .int .i64 0) [] (fun w' hSw => ?_) hHeld ?_
          · clear hHeld hSw
            go_simp
          simp only [Act.put, zl0, zl1, zl2, zl3, zl4, zl5]
          refine wpAnyZ_done (by kernel_rfl) ?_ _
          have HFIN := Lib.hid hHeld
          clear hHeld
          go_wp2_with fail
          go_meet
          exact ⟨X, r', rfl, rfl, HX2, HXS, HR', HFIN⟩
        · go_simp
          refine hK.out _ _ ?_ (fun hHeld' => ?_)
          · exact hHeld.alloc hHeld.size _
          clear hK K'
          obtain ⟨WB, hWB⟩ : ∃ W, W = wd.alloc (.cells #[.int .i64 0, .int .i64 0] 76) := ⟨_, rfl⟩
          obtain ⟨X, hX⟩ : ∃ X, X = wd.heap.size := ⟨_, rfl⟩
          have HXS : Hid (WA.heap.size ≤ X) := Lib.hid (by rw [hX]; exact hHeld.size)
          have HX : Hid (Own WB X 76 2 (rmF 0 0)) := Lib.hid (by rw [hWB, hX]; exact Own.rmp _ 0 0)
          rw [← hX]
          rw [← hWB] at hHeld' ⊢
          clear hWB hX hHeld
          have hHeld := hHeld'
          clear hHeld'
          try simp only [Act.put, zl0, zl1, zl2, zl3, zl4, zl5]
          refine zo 9 (fun K' hK => ?_)
          go_simp
          refine (rmNext_ok (nmF s k) (rs k) (v k) _ HRK.out.1 HRK.out.2 HVK.out.1 HVK.out.2 (Lib.hid (fun i hi => (hHeld.cell (zb (HTT.out i hi))).trans (HTT.out i hi)))).mono ?_
          rintro e wk ⟨r', rfl, hr', hbk⟩
          have HR' := Lib.hid hr'
          refine hK.out _ _ ?_ (fun hHeld' => ?_)
          · exact hHeld.trans (hbk.mono hHeld.size)
          clear hK K' hr'
          have HX := Lib.hid (HX.out.keep hbk HX.out.lt)
          clear hHeld hbk
          have hHeld := hHeld'
          clear hHeld'
          try simp only [Act.put, zl0, zl1, zl2, zl3, zl4, zl5]
          refine zt (i := 10) (v := .tuple #[.agg #[.int .i64 r'.amp, .int .i64 r'.snc], .int .i64 0]) [] (fun w' hSw => ?_) hHeld ?_
          · clear hHeld hSw
            go_simp
          simp only [Act.put, zl0, zl1, zl2, zl3, zl4, zl5]
          refine zt (i := 11) (v := .agg #[.int .i64 r'.amp, .int .i64 r'.snc]) [] (fun w' hSw => ?_) hHeld ?_
          · clear hHeld hSw
            go_simp
          simp only [Act.put, zl0, zl1, zl2, zl3, zl4, zl5]
          refine zt (i := 12) (v := .int .i64 0) [] (fun w' hSw => ?_) hHeld ?_
          · clear hHeld hSw
            go_simp
          simp only [Act.put, zl0, zl1, zl2, zl3, zl4, zl5]
          refine zo 14 (fun K' hK => ?_)
          have x0 := HX.out.cell (i := 0) (by omega)
          have x1 := HX.out.cell (i := 1) (by omega)
          have f0 := HX.out.frozen 0
          have f1 := HX.out.frozen 1
          have lX := HX.out.lt
          have HX2 := Lib.hid (rmF_set HX.out r'.amp r'.snc)
          go_simp
          refine hK.out _ _ ?_ (fun hHeld' => ?_)
          · exact (hHeld.setCell (p := ⟨X, 0, none⟩) HXS.out _).setCell (p := ⟨X, 1, none⟩) HXS.out _
          clear hK K' hHeld x0 x1 f0 f1 lX HX
          have hHeld := hHeld'
          clear hHeld'
          try simp only [Act.put, zl0, zl1, zl2, zl3, zl4, zl5]
          refine zt (i := 15) (v := .int .i64 0) [] (fun w' hSw => ?_) hHeld ?_
          · clear hHeld hSw
            go_simp
          simp only [Act.put, zl0, zl1, zl2, zl3, zl4, zl5]
          refine wpAnyZ_done (by kernel_rfl) ?_ _
          have HFIN := Lib.hid hHeld
          clear hHeld
          go_wp2_with fail
          go_meet
          exact ⟨X, r', rfl, rfl, HX2, HXS, HR', HFIN⟩
      case rest =>
        obtain ⟨X, r', rfl, rfl, HXO, HXS, HR', HBc⟩ := hcut
        have HB3c := Lib.hid (below_then HB3A.out HBc.out)
        have HOLc := Lib.hid (HOLA.out.keep HBc.out)
        have HGC := Lib.hid (HGCA.out.keep HBc.out HGCA.out.lt)
        have HGN := Lib.hid (HGNA.out.keep HBc.out HGNA.out.lt)
        have HMc : Hid (Mod (fun j => j = GC ∨ j = GN) w5 wc) := Lib.hid (HMA.out.trans ((Mod.of_below HBc.out).mono (fun j hj h => by omega)))
        have x0 : wc.cell? ⟨X, 0, none⟩ = some (.int .i64 r'.amp) := HXO.out.cell (i := 0) (by omega)
        have x1 : wc.cell? ⟨X, 1, none⟩ = some (.int .i64 r'.snc) := HXO.out.cell (i := 1) (by omega)
        have HXN : Hid (¬ (X = GC ∨ X = GN)) := Lib.hid (fun e => by have := HXS.out; have := HGCA.out.lt; have := HGNA.out.lt; omega)
        have HCN : Hid (GN ≠ GC) := Lib.hid (by have := HSZ.out; omega)
        clear z0 z1 z2 z3 z4 z5 z6 z7 r0 r1 o0 HRK HVK HTT HGCA HGNA HOLA HMA HB3A HBc
        go_upto_region 16 with (fail)
        refine region_z (S := fun w' => Mod (fun j => j = GC ∨ j = GN) wc w') [] (by kernel_rfl) ((Mod.refl _ _).drew) (fun hHeld => ?_)
        have HGCd := Lib.hid HGC.out.drew
        have HGNd := Lib.hid HGN.out.drew
        obtain ⟨wd, hwd⟩ : ∃ wd, wd = wc.drew := ⟨_, rfl⟩
        rw [← hwd] at hHeld HGCd HGNd ⊢
        clear hwd
        refine zt (i := 0) (v := .slice (some ⟨GC, 0, none⟩) n n) [] (fun w' hSw => ?_) hHeld ?_
        · clear hHeld hSw
          go_simp
        simp only [Act.put, zl0, zl1, zl2, zl3, zl4, zl5]
        refine zt (i := 1) (v := .int .i64 (k : Nat)) [] (fun w' hSw => ?_) hHeld ?_
        · clear hHeld hSw
          go_simp
        simp only [Act.put, zl0, zl1, zl2, zl3, zl4, zl5]
        refine zt (i := 2) (v := .slice (some ⟨GN, 0, none⟩) n n) [] (fun w' hSw => ?_) hHeld ?_
        · clear hHeld hSw
          go_simp
        simp only [Act.put, zl0, zl1, zl2, zl3, zl4, zl5]
        refine zt (i := 3) (v := .int .i64 (k : Nat)) [] (fun w' hSw => ?_) hHeld ?_
        · clear hHeld hSw
          go_simp
        simp only [Act.put, zl0, zl1, zl2, zl3, zl4, zl5]
        refine zt (i := 4) (v := .pointer (some ⟨X, 0, none⟩)) [] (fun w' hSw => ?_) hHeld ?_
        · clear hHeld hSw
          go_simp
        simp only [Act.put, zl0, zl1, zl2, zl3, zl4, zl5]
        refine zt (i := 5) (v := .int .i64 r'.amp) [] (fun w' hSw => ?_) hHeld ?_
        · have x0' := (hSw.cell (zb x0) HXN.out).trans x0
          have lx0 := zb x0'
          dsimp only at lx0
          clear hHeld hSw
          go_simp
        simp only [Act.put, zl0, zl1, zl2, zl3, zl4, zl5]
        refine zt (i := 6) (v := .agg #[.int .i64 r'.amp, .int .i64 r'.snc]) [] (fun w' hSw => ?_) hHeld ?_
        · have x0' := (hSw.cell (zb x0) HXN.out).trans x0
          have lx0 := zb x0'
          dsimp only at lx0
          have x1' := (hSw.cell (zb x1) HXN.out).trans x1
          clear hHeld hSw
          go_simp
        simp only [Act.put, zl0, zl1, zl2, zl3, zl4, zl5]
        refine zt (i := 7) (v := .pointer (some ⟨GC, k, none⟩)) [] (fun w' hSw => ?_) hHeld ?_
        · clear hHeld hSw
          go_simp
        simp only [Act.put, zl0, zl1, zl2, zl3, zl4, zl5]
        refine zo 8 (fun K' hK => ?_)
        have c0 := HGCd.out.cell hkn
        have f0 := HGCd.out.frozen k
        have lG := HGCd.out.lt
        have HGC2 := Lib.hid (HGCd.out.set k (.int .i64 r'.amp))
        have HGN2 := Lib.hid (HGNd.out.other (p := ⟨GC, k, none⟩) HCN.out (.int .i64 r'.amp))
        go_simp
        refine hK.out _ _ ?_ (fun hHeld' => ?_)
        · exact hHeld.setCell (p := ⟨GC, k, none⟩) (.inl (.inl rfl)) _
        clear hK K' hHeld
        clear c0 f0 lG HGCd HGNd
        obtain ⟨we, hwe⟩ : ∃ we, we = wd.setCell ⟨GC, k, none⟩ (.int .i64 r'.amp) := ⟨_, rfl⟩
        rw [← hwe] at hHeld' HGC2 HGN2 ⊢
        clear hwe
        have hHeld := hHeld'
        clear hHeld'
        try simp only [Act.put, zl0, zl1, zl2, zl3, zl4, zl5]
        refine zt (i := 9) (v := .pointer (some ⟨GN, k * 2, none⟩)) [] (fun w' hSw => ?_) hHeld ?_
        · clear hHeld hSw
          go_simp
        simp only [Act.put, zl0, zl1, zl2, zl3, zl4, zl5]
        refine zo 10 (fun K' hK => ?_)
        have c0 := HGN2.out.cell (i := k * 2) (by omega)
        have c1 := HGN2.out.cell (i := k * 2 + 1) (by omega)
        have f0 := HGN2.out.frozen (k * 2)
        have f1 := HGN2.out.frozen (k * 2 + 1)
        have lG := HGN2.out.lt
        have HGN3 := Lib.hid ((HGN2.out.set (k * 2) (.int .i64 r'.amp)).set (k * 2 + 1) (.int .i64 r'.snc))
        have HGC3 := Lib.hid ((HGC2.out.other (p := ⟨GN, k * 2, none⟩) (Ne.symm HCN.out) (.int .i64 r'.amp)).other (p := ⟨GN, k * 2 + 1, none⟩) (Ne.symm HCN.out) (.int .i64 r'.snc))
        go_simp
        refine hK.out _ _ ?_ (fun hHeld' => ?_)
        · exact (hHeld.setCell (p := ⟨GN, k * 2, none⟩) (.inl (.inr rfl)) _).setCell (p := ⟨GN, k * 2 + 1, none⟩) (.inl (.inr rfl)) _
        clear hK K' hHeld
        clear c0 c1 f0 f1 lG HGC2 HGN2
        obtain ⟨wf, hwf⟩ : ∃ wf, wf = (we.setCell ⟨GN, k * 2, none⟩ (.int .i64 r'.amp)).setCell ⟨GN, k * 2 + 1, none⟩ (.int .i64 r'.snc) := ⟨_, rfl⟩
        rw [← hwf] at hHeld' HGC3 HGN3 ⊢
        clear hwf
        have hHeld := hHeld'
        clear hHeld'
        try simp only [Act.put, zl0, zl1, zl2, zl3, zl4, zl5]
        refine wpAnyZ_done (by kernel_rfl) ?_ _
        have HMf : Hid (Mod (fun j => j = GC ∨ j = GN) w5 wf) := Lib.hid (HMc.out.trans hHeld)
        have HB3f : Hid (Below w3.heap.size w3 wf) := Lib.hid (HB35.out.trans (HMf.out.below (B := w3.heap.size) HB35.out.size (fun j _ e => by have := HSZ.out; omega)))
        have HOLf : Hid (OwnLs wf w5.heap.size (.slice va vn vc) mo) := Lib.hid (ownLs_mod HOLc.out hHeld (fun j e => by have := HSZ.out; omega))
        have hX0 : wf.cell? ⟨X, 0, none⟩ = some (.int .i64 r'.amp) := (hHeld.cell (zb x0) HXN.out).trans x0
        have hlX : X < wf.heap.size := zb hX0
        clear hHeld x0 x1 HMc HB3c HOLc HGC HGN HXO
        go_wp2_with fail
        refine (coIsNew_any C n1 c1 n2 c2 n3 c3 bC oC c4 n5 c5 nL cL bD oD cD GO 0 n n a1 a2 a3 a5 aL tick s ls k r'.amp wf (Lib.hid (HDC3.out.keep HB3f.out)) (Lib.hid (HCH3.out.keep HB3f.out)) (Lib.hid (HX3.out.keep HB3f.out)) HNL hn64 hkn (by omega) (by omega)).mono ?_
        rintro e w7 ⟨⟨b, rfl⟩, hb7⟩
        have hX7 : w7.cell? ⟨X, 0, none⟩ = some (.int .i64 r'.amp) := (hb7.cell hlX).trans hX0
        have hlX7 : X < w7.heap.size := zb hX7
        have HM7 : Hid (Mod (fun j => j = GC ∨ j = GN) w5 w7) := Lib.hid (HMf.out.trans ((Mod.of_below hb7).mono (fun j hj h => by omega)))
        have HOL7 := Lib.hid (HOLf.out.keep hb7)
        have HGC7 : Hid (Own w7 GC 3 n (fun j => if j < k + 1 then .int .i64 (setR rs' k r' j).amp else .int .i64 0)) := Lib.hid ((HGC3.out.keep hb7 HGC3.out.lt).congr (fun j _ => curR_snoc rs' k r' j))
        have HGN7 : Hid (Own w7 GN 76 (n * 2) (rowR (setR rs' k r') (k + 1))) := Lib.hid ((HGN3.out.keep hb7 HGN3.out.lt).congr (fun j _ => rowR_snoc rs' k r' j))
        have HRR7 : Hid (∀ j, j < k + 1 → RmOk (setR rs' k r' j) ∧ (setR rs' k r' j).snc ≤ (rs j).snc + 1) := Lib.hid (fun j hj => by
          unfold setR
          by_cases e : j = k
          · subst e; rw [if_pos rfl]; exact ⟨HR'.out.1, HR'.out.2.1⟩
          · rw [if_neg e]; exact HRR.out j (by omega))
        clear hX0 hlX hb7 HMf HB3f HOLf HGC3 HGN3 HRR
        cases b
        · have HMO2 := Lib.hid HMO.out.wide
          clear hX7 hlX7 HMO
          go_wp2_with fail
          go_roundg (n - (k + 1))
          case measure => omega
          case rel => exact ⟨k + 1, va, vn, vc, setR rs' k r', mo, rfl, rfl, by go_num, by omega, by omega, by omega, HOL7, HMO2, HGC7, HGN7, HRR7, HM7⟩
        · have happ := app_lse ⟨num + (mo.length : Int), (k : Nat), r'.amp, tick, 12⟩ HOL7.out (by have := HM7.out.size; exact this) (by omega)
          dsimp only at happ
          obtain ⟨ap, v', w8, av, aw, HW8, HA8⟩ := happ
          have hsh := HW8.out.shape
          have HMO2 : Hid (MoOk num tick v (k + 1) (mo ++ [⟨num + (mo.length : Int), (k : Nat), r'.amp, tick, 12⟩])) := Lib.hid (HMO.out.snoc rfl rfl rfl rfl HR'.out.2.2.1 HR'.out.2.2.2)
          obtain ⟨mo2, hmo2⟩ : ∃ m, m = mo ++ [(⟨num + (mo.length : Int), (k : Nat), r'.amp, tick, 12⟩ : Lse)] := ⟨_, rfl⟩
          have hml2 : mo2.length = mo.length + 1 := by rw [hmo2]; simp
          rw [← hmo2] at HW8 HMO2 hsh
          clear hmo2
          obtain ⟨va', vc', hv'⟩ := hsh
          obtain ⟨vn', hvn'⟩ : ∃ n, n = mo2.length := ⟨_, rfl⟩
          rw [← hvn'] at hv'
          clear hvn'
          subst hv'
          have HB8 : Hid (Below w5.heap.size w7 w8) := Lib.hid HA8.out.bel
          have HM8 : Hid (Mod (fun j => j = GC ∨ j = GN) w5 w8) := Lib.hid (HM7.out.thenBelow HB8.out (Nat.le_refl _))
          have HGC8 := Lib.hid (HGC7.out.keep HB8.out (by have := HSZ.out; omega))
          have HGN8 := Lib.hid (HGN7.out.keep HB8.out (by have := HSZ.out; omega))
          have wnum : IntKind.i64.wrap (num + (mo.length : Int) + 1) = num + (mo.length : Int) + 1 := IntWalk.i64_in _ (by omega)
          have HWN := Lib.hid wnum
          clear HA8 HMO HGC7 HGN7 HOL7 HM7
          go_wp2_with fail
          go_roundg (n - (k + 1))
          case measure => omega
          case rel => exact ⟨k + 1, va', vn', vc', setR rs' k r', mo2, by rw [hml2]; congr 1; omega, rfl, by go_num, by omega, by omega, by omega, HW8, HMO2, HGC8, HGN8, HRR7, HM8⟩
    · have hkz : ¬ (k : Int) < (n : Int) := by omega
      have hkn' : k = n := by omega
      subst hkn'
      have HBr : Hid (Below w.heap.size w wr) := Lib.hid (below_then HB3.out HB3r.out)
      have HRD := Lib.hid (ownLs_post HOL.out)
      have HSG : Hid (w.heap.size ≤ GN) := Lib.hid (by have := HB3.out.size; have := HSZ.out; omega)
      clear HOL HB3r HMr
      go_wp2_with fail
      refine bodyPost_ret (results_tmpD4 (t := 12) (u := 13) (v := 14) (x := 15) rfl _ _ _) rfl ?_
      go_simp
      obtain ⟨a6, c6, e6, r6, f6⟩ := HRD.out
      refine ⟨GC, GN, a6, mo.length, c6, mo, v, rs', by rw [e6], HSG.out, ?_, fun i hi => (HRR.out i hi).2, r6, fun p hp => Nat.le_trans (by have := HB3.out.size; have := HSZ.out; omega) (f6 p hp), rfl, by omega, HMO.out, HV.out.1, HV.out.2, HBr.out⟩
      intro i hi
      have q0 := HGN.out.cell (i := i * 2) (by omega)
      have q1 := HGN.out.cell (i := i * 2 + 1) (by omega)
      unfold rowR at q0 q1
      rw [if_pos (by omega), if_pos (by omega), show i * 2 / 2 = i from by omega] at q0
      rw [if_pos (by omega), if_neg (by omega), show (i * 2 + 1) / 2 = i from by omega] at q1
      exact ⟨by rw [Nat.zero_add]; exact q0, by rw [Nat.zero_add]; exact q1, (HRR.out i hi).1⟩
end Go.Proofs.YtkbbapefgifagaaGreatDoor
