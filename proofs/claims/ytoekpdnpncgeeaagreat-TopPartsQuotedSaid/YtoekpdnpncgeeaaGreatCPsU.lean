/-
The parser: Valid, on trees that are valid.
-/
import Derived.Test.YtoekpdnpncgeeaaGreatGPsI
import Derived.Test.YtoekpdnpncgeeaaGreatGLPar
namespace Go.Proofs.YtoekpdnpncgeeaaGreat
open Go.RowKit
set_option linter.unusedVariables false
set_option linter.unusedSimpArgs false
def VfOk (words : Bool) (x : Lf) : Prop := (x.kind = 5 ∧ x.n = 0 ∧ x.name.size ≤ 8000 ∧ (okNameB keyL x.name = true ∨ (words = true ∧ okNameB keyL x.name = false ∧ inB wordL x.name = true))) ∨ (x.kind = 6 ∧ x.name = ⟨#[]⟩ ∧ 0 ≤ x.n ∧ x.n ≤ 1000000)
def VpOk (art : Bool) (x : Nd Lf) : Prop := x.n = 0 ∧ ((art = false ∧ x.kind = 3 ∧ inB attrL x.name = true) ∨ (art = true ∧ x.kind = 4 ∧ inB artL x.name = true)) ∧ ∀ y ∈ x.kids, VfOk art y
def ViOk (x : Nd (Nd Lf)) : Prop := x.kind = 2 ∧ 1 ≤ x.n ∧ x.n ≤ 7 ∧ x.name.size ≤ 8000 ∧ okNameB keyL x.name = true ∧ ∃ art : Bool, (art = true → x.n = 7) ∧ ∀ y ∈ x.kids, VpOk art y
def costI (x : Nd (Nd Lf)) : Nat := x.kids.length + (x.kids.map (fun y => y.kids.length)).sum
set_option maxRecDepth 100000 in
set_option maxHeartbeats 8000000 in
theorem paValue_ok (words : Bool) (h : NH) (x : Lf) (lo hi : Nat) (w : World) (hok : okLf w lo hi h x) (hv : VfOk words x) : Calls Tryz.prog 122 #[nhV h, .bool words] w fun e w' => e = .returned (.bool true) ∧ Below w.heap.size w w' := by
  obtain ⟨hkk, hna, hnn, hpo, ha, hln, hc⟩ := h
  obtain ⟨e1, e2, e3, e4, e5⟩ := hok
  dsimp only at e1 e2 e3 e4 e5
  rw [show nhV ⟨hkk, hna, hnn, hpo, ha, hln, hc⟩ = .agg #[.int .i64 hkk, .string hna, .int .i64 hnn, .int .i64 (hpo : Nat), .slice ha hln hc] from rfl]
  unfold VfOk at hv
  rw [← e1, ← e2, ← e3] at hv
  subst e5
  clear e1 e2 e3 e4
  obtain ⟨W0, hW0⟩ : ∃ W, W = w.alloc (.cells #[.int .i64 hkk, .string hna, .int .i64 hnn, .int .i64 (hpo : Nat), .slice ha 0 hc] 56) := ⟨_, rfl⟩
  have HB0 : Hid (Below w.heap.size w W0) := Lib.hid (by rw [hW0]; exact (Below.refl _ _).alloc (Nat.le_refl _) _)
  obtain ⟨X, hX⟩ : ∃ X, X = w.heap.size := ⟨_, rfl⟩
  have x0 : W0.cell? ⟨X, 0, none⟩ = some (.int .i64 hkk) := by rw [hW0, hX]; go_simp
  have x1 : W0.cell? ⟨X, 1, none⟩ = some (.string hna) := by rw [hW0, hX]; go_simp
  have x2 : W0.cell? ⟨X, 2, none⟩ = some (.int .i64 hnn) := by rw [hW0, hX]; go_simp
  have x4 : W0.cell? ⟨X, 4, none⟩ = some (.slice ha 0 hc) := by rw [hW0, hX]; go_simp
  have hXl : X < W0.heap.size := by rw [hW0, hX]; simp
  have HW0 := Lib.hid hW0
  have HX := Lib.hid hX
  clear hW0 hX
  rcases hv with ⟨h5, hn0, hsz, hg⟩ | ⟨h6, hne, hl, hu⟩
  · subst h5 hn0
    rcases hg with hg | ⟨hw, hng, hg⟩
    · have HG : Hid (∀ w, Calls Tryz.prog 99 #[.string hna] w fun e w' => e = .returned (.bool true) ∧ w' = w) := Lib.hid (fun w => by have h := paGood_any hna w (by omega); rw [hg] at h; exact h)
      clear hg
      go_enter Tryz.func122, Tryz.ntmps122
      go_upto_region 1 with (fail)
      rw [← HW0.out, ← HX.out]
      clear HW0
      go_wp2_with fail
      refine (HG.out W0).mono ?_
      rintro e w1 ⟨rfl, hw1⟩
      subst hw1
      go_wp2_with fail
      go_ret
      exact ⟨rfl, HB0.out⟩
    · subst hw
      have HG : Hid (∀ w, Calls Tryz.prog 99 #[.string hna] w fun e w' => e = .returned (.bool false) ∧ w' = w) := Lib.hid (fun w => by have h := paGood_any hna w (by omega); rw [hng] at h; exact h)
      have HI : Hid (∀ w, Calls Tryz.prog 133 #[.string hna] w fun e w' => e = .returned (.bool true) ∧ w' = w) := Lib.hid (fun w => by have h := paIsWord_any hna w; rw [hg] at h; exact h)
      clear hg hng
      go_enter Tryz.func122, Tryz.ntmps122
      go_upto_region 1 with (fail)
      rw [← HW0.out, ← HX.out]
      clear HW0
      go_wp2_with fail
      refine (HG.out W0).mono ?_
      rintro e w1 ⟨rfl, hw1⟩
      rw [hw1]
      clear hw1
      go_wp2_with fail
      refine (HI.out W0).mono ?_
      rintro e w2 ⟨rfl, hw2⟩
      rw [hw2]
      clear hw2
      go_wp2_with fail
      go_ret
      exact ⟨rfl, HB0.out⟩
  · subst h6 hne
    have hlz : ¬ hnn < 0 := by omega
    have hl' : (0 : Int) ≤ hnn := hl
    go_enter Tryz.func122, Tryz.ntmps122
    go_upto_region 1 with (fail)
    rw [← HW0.out, ← HX.out]
    clear HW0
    go_wp2_with fail
    go_ret
    exact ⟨rfl, HB0.out⟩
set_option maxRecDepth 100000 in
set_option maxHeartbeats 8000000 in
theorem paPart_ok (art : Bool) (h : NH) (x : Nd Lf) (lo hi : Nat) (bl z : Nat) (w : World) (hok : okNd okLf w lo hi h x) (hhi : hi ≤ w.heap.size) (hv : VpOk art x) (hcl : w.cell? ⟨bl, 0, none⟩ = some (.int .i64 (z : Nat))) (hf : w.frozen? ⟨bl, 0, none⟩ = false) (hz : x.kids.length ≤ z) (hz2 : z ≤ 2000) (hlo : bl < lo ∨ hi ≤ bl) :
    Calls Tryz.prog 100 #[nhV h, .pointer (some ⟨bl, 0, none⟩)] w fun e w' => e = .returned (.bool true) ∧ Mod (fun j => j = bl) w w' ∧ w'.cell? ⟨bl, 0, none⟩ = some (.int .i64 ((z - x.kids.length : Nat) : Nat)) ∧ w'.frozen? ⟨bl, 0, none⟩ = false := by
  obtain ⟨hkk, hna, hnn, hpo, ha, hln, hc⟩ := h
  obtain ⟨e1, e2, e3, e4, hs, g⟩ := hok
  obtain ⟨hl, hr⟩ := g.rd
  dsimp only at e1 e2 e3 e4 g hl hr
  rw [show nhV ⟨hkk, hna, hnn, hpo, ha, hln, hc⟩ = .agg #[.int .i64 hkk, .string hna, .int .i64 hnn, .int .i64 (hpo : Nat), .slice ha hln hc] from rfl]
  obtain ⟨v1, v2, v3⟩ := hv
  rw [← e1, ← e2] at v2
  rw [← e3] at v1
  have hlb : bl < w.heap.size := World.block_lt_of_cell? _ _ hcl
  have HXL : Hid (x.kids.length = hln) := Lib.hid (by rw [← g.len, hl])
  have HG := Lib.hid g
  have HV := Lib.hid v3
  have HHI := Lib.hid hhi
  have HLO := Lib.hid hlo
  have hzl : hln ≤ z := by have := HXL.out; omega
  rw [HXL.out]
  clear e1 e2 e3 e4 g v3 hhi hlo hr hz
  obtain ⟨W0, hW0⟩ : ∃ W, W = w.alloc (.cells #[.int .i64 hkk, .string hna, .int .i64 hnn, .int .i64 (hpo : Nat), .slice ha hln hc] 56) := ⟨_, rfl⟩
  have hb0 : Below w.heap.size w W0 := by rw [hW0]; exact (Below.refl _ _).alloc (Nat.le_refl _) _
  obtain ⟨X, hX⟩ : ∃ X, X = w.heap.size := ⟨_, rfl⟩
  have x0 : W0.cell? ⟨X, 0, none⟩ = some (.int .i64 hkk) := by rw [hW0, hX]; go_simp
  have x1 : W0.cell? ⟨X, 1, none⟩ = some (.string hna) := by rw [hW0, hX]; go_simp
  have x2 : W0.cell? ⟨X, 2, none⟩ = some (.int .i64 hnn) := by rw [hW0, hX]; go_simp
  have x4 : W0.cell? ⟨X, 4, none⟩ = some (.slice ha hln hc) := by rw [hW0, hX]; go_simp
  have hXl : X < W0.heap.size := by rw [hW0, hX]; simp
  have hcl0 : W0.cell? ⟨bl, 0, none⟩ = some (.int .i64 (z : Nat)) := (hb0.cell (p := ⟨bl, 0, none⟩) hlb).trans hcl
  have hf0 : W0.frozen? ⟨bl, 0, none⟩ = false := (hb0.frozen (p := ⟨bl, 0, none⟩) hlb).trans hf
  have hlb0 : bl < W0.heap.size := Nat.lt_of_lt_of_le hlb hb0.size
  have HBX : Hid (bl < X ∧ w.heap.size = X) := Lib.hid ⟨by rw [hX]; exact hlb, hX.symm⟩
  have HB0 := Lib.hid hb0
  have HW0 := Lib.hid hW0
  have HX := Lib.hid hX
  clear hW0 hX hcl hf hb0 hlb
  subst v1
  have hsub : IntKind.i64.wrap ((z : Int) - (hln : Int)) = ((z - hln : Nat) : Int) := by rw [IntWalk.i64_in _ (by omega)]; omega
  have hnn0 : ¬ (((z - hln : Nat) : Int) < 0) := by omega
  have HAT : Hid (∀ w, art = false → Calls Tryz.prog 115 #[.string hna] w fun e w' => e = .returned (.bool true) ∧ w' = w) := Lib.hid (fun w ha => by
    rcases v2 with ⟨_, _, h⟩ | ⟨h, _⟩
    · have h2 := paAttr_any hna w; rw [h] at h2; exact h2
    · rw [ha] at h; cases h)
  have HAR : Hid (∀ w, art = true → Calls Tryz.prog 121 #[.string hna] w fun e w' => e = .returned (.bool true) ∧ w' = w) := Lib.hid (fun w ha => by
    rcases v2 with ⟨h, _⟩ | ⟨_, _, h⟩
    · rw [ha] at h; cases h
    · have h2 := paArt_any hna w; rw [h] at h2; exact h2)
  have HK : Hid (hkk = if art then 4 else 3) := Lib.hid (by rcases v2 with ⟨h, h2, _⟩ | ⟨h, h2, _⟩ <;> rw [h, h2] <;> rfl)
  clear v2
  go_enter Tryz.func100, Tryz.ntmps100
  go_upto_region 1 with (fail)
  rw [← HW0.out, ← HX.out]
  clear HW0
  cases art
  case false =>
    have hk : hkk = 3 := HK.out
    have HAT0 : Hid (∀ w, Calls Tryz.prog 115 #[.string hna] w fun e w' => e = .returned (.bool true) ∧ w' = w) := Lib.hid (fun w => HAT.out w rfl)
    clear HAT HAR
    subst hk
    go_wp2_with fail
    refine (HAT0.out W0).mono ?_
    rintro e w1 ⟨rfl, hw1⟩
    rw [hw1]
    clear hw1
    go_upto_region 10 with (fail)
    go_big_region
    obtain ⟨w2, hw2⟩ : ∃ W, W = W0.setCell ⟨bl, 0, none⟩ (.int .i64 ((z - hln : Nat) : Nat)) := ⟨_, rfl⟩
    have hm2 : Mod (fun j => j = bl) W0 w2 := by rw [hw2]; exact (show Mod (fun j => j = bl) W0 W0 from Mod.refl _ W0).setCell (p := ⟨bl, 0, none⟩) (.inl rfl) _
    have hc2 : w2.cell? ⟨bl, 0, none⟩ = some (.int .i64 ((z - hln : Nat) : Nat)) := by rw [hw2]; exact World.cell?_setCell_same _ _ _ hcl0
    have hff2 : w2.frozen? ⟨bl, 0, none⟩ = false := by rw [hw2]; go_simp
    try rw [show W0.drew.setCell ⟨bl, 0, none⟩ (.int .i64 ((z - hln : Nat) : Nat)) = w2.drew by rw [hw2]; rfl]
    try rw [← hw2]
    obtain ⟨w3, hw3⟩ : ∃ W, W = w2.drew := ⟨_, rfl⟩
    have HM3 : Hid (Mod (fun j => j = bl) W0 w3) := Lib.hid (by rw [hw3]; exact hm2.drew)
    have hc3 : w3.cell? ⟨bl, 0, none⟩ = some (.int .i64 ((z - hln : Nat) : Nat)) := by rw [hw3]; exact hc2
    have HF3 : Hid (w3.frozen? ⟨bl, 0, none⟩ = false) := Lib.hid (by rw [hw3]; exact hff2)
    rw [← hw3]
    clear hw3 hw2 hm2 hc2 hff2
    have x4 : w3.cell? ⟨X, 4, none⟩ = some (.slice ha hln hc) := (HM3.out.cell (p := ⟨X, 4, none⟩) hXl (by have := HBX.out; show X ≠ bl; omega)).trans x4
    have hXl3 : X < w3.heap.size := Nat.lt_of_lt_of_le hXl HM3.out.size
    have hlb3 : bl < w3.heap.size := Nat.lt_of_lt_of_le hlb0 HM3.out.size
    have HC3 := Lib.hid hc3
    have HG3 : Hid (GrT okLf w3 lo hi (.slice ha hln hc) hs x.kids) := Lib.hid ((HG.out.calm okLf_firm (Calm.of (Mod.of_below HB0.out) (fun j _ h2 h3 => by have := HHI.out; omega))).calm okLf_firm (Calm.of HM3.out (fun j h1 h2 e => by have := HLO.out; omega)))
    have HMw : Hid (Mod (fun j => j = bl) w w3) := Lib.hid ((modB HB0.out).trans HM3.out)
    clear x0 x1 x2 hcl0 hf0
    go_wp2_with fail
    go_loopg [59] hln (fun g1 v59 wr => ∃ (i : Nat), v59 = .int .i64 i ∧ i ≤ hln ∧ hln - i ≤ g1 ∧ Hid (Below w3.heap.size w3 wr))
    case atStart => exact ⟨0, by go_num, by omega, by omega, Lib.hid (Below.refl _ _)⟩
    case round =>
      obtain ⟨i, rfl, hi', hg1, HB⟩ := hrel
      by_cases hlt : i < hln
      · have hltz : (i : Int) < (hln : Int) := by omega
        obtain ⟨hl', hr'⟩ := HG3.out.rd
        obtain ⟨b, off, y, hA, hbl, hx, d0, d1, d2, d3, d4⟩ := node_at (hr'.keep HB.out) (k := i) (by rw [hl']; exact hlt)
        have hkx : i < x.kids.length := by have := HXL.out; omega
        obtain ⟨l1, h1', q1, q2, q3, q4⟩ := HG3.out.mem i y x.kids[i] hx (List.getElem?_eq_getElem hkx)
        have HVL := Lib.hid (fun W => paValue_ok false y x.kids[i] l1 h1' W q4 (HV.out _ (List.getElem_mem hkx)))
        have HA := Lib.hid hA
        obtain ⟨ykk, yna, ynn, ypo, ya, yln, yc⟩ := y
        rw [show nhV ⟨ykk, yna, ynn, ypo, ya, yln, yc⟩ = .agg #[.int .i64 ykk, .string yna, .int .i64 ynn, .int .i64 (ypo : Nat), .slice ya yln yc] from rfl] at HVL
        subst hA
        dsimp only at d0 d1 d2 d3 d4
        clear hx hl' hr' hkx q1 q2 q3 q4
        go_upto_region 16 with (fail)
        obtain ⟨W1, hW1⟩ : ∃ W, W = wr.alloc (.cells #[.int .i64 ykk, .string yna, .int .i64 ynn, .int .i64 (ypo : Nat), .slice ya yln yc] 56) := ⟨_, rfl⟩
        obtain ⟨N, hN⟩ : ∃ N, N = wr.heap.size := ⟨_, rfl⟩
        have hb1 : Below wr.heap.size wr W1 := by rw [hW1]; exact (Below.refl _ _).alloc (Nat.le_refl _) _
        have y0 : W1.cell? ⟨N, 0, none⟩ = some (.int .i64 ykk) := by rw [hW1, hN]; go_simp
        have y1 : W1.cell? ⟨N, 1, none⟩ = some (.string yna) := by rw [hW1, hN]; go_simp
        have y2 : W1.cell? ⟨N, 2, none⟩ = some (.int .i64 ynn) := by rw [hW1, hN]; go_simp
        have y3 : W1.cell? ⟨N, 3, none⟩ = some (.int .i64 (ypo : Nat)) := by rw [hW1, hN]; go_simp
        have y4 : W1.cell? ⟨N, 4, none⟩ = some (.slice ya yln yc) := by rw [hW1, hN]; go_simp
        have hNl : N < W1.heap.size := by rw [hW1, hN]; simp
        have HB1 : Hid (Below w3.heap.size w3 W1) := Lib.hid (below_then HB.out hb1)
        rw [← hW1, ← hN]
        clear hW1 hN hb1 d0 d1 d2 d3 d4 hbl x4 hXl3 hc3 hlb3
        go_wp2_with fail
        refine (HVL.out W1).mono ?_
        rintro e W2 ⟨rfl, hb2⟩
        have HB2 : Hid (Below w3.heap.size w3 W2) := Lib.hid (below_then HB1.out hb2)
        clear hb2
        go_wp2_with fail
        go_roundg (hln - (i + 1))
        case measure => omega
        case rel => exact ⟨i + 1, by go_num, by omega, by omega, HB2⟩
      · have hltz : ¬ (i : Int) < (hln : Int) := by omega
        go_wp2_with fail
        go_ret
        exact ⟨rfl, HMw.out.trans (modB HB.out), (HB.out.cell (p := ⟨bl, 0, none⟩) hlb3).trans HC3.out, (HB.out.frozen (p := ⟨bl, 0, none⟩) hlb3).trans HF3.out⟩
  case true =>
    have hk : hkk = 4 := HK.out
    have HAR0 : Hid (∀ w, Calls Tryz.prog 121 #[.string hna] w fun e w' => e = .returned (.bool true) ∧ w' = w) := Lib.hid (fun w => HAR.out w rfl)
    clear HAT HAR
    subst hk
    go_wp2_with fail
    refine (HAR0.out W0).mono ?_
    rintro e w1 ⟨rfl, hw1⟩
    rw [hw1]
    clear hw1
    go_upto_region 10 with (fail)
    go_big_region
    obtain ⟨w2, hw2⟩ : ∃ W, W = W0.setCell ⟨bl, 0, none⟩ (.int .i64 ((z - hln : Nat) : Nat)) := ⟨_, rfl⟩
    have hm2 : Mod (fun j => j = bl) W0 w2 := by rw [hw2]; exact (show Mod (fun j => j = bl) W0 W0 from Mod.refl _ W0).setCell (p := ⟨bl, 0, none⟩) (.inl rfl) _
    have hc2 : w2.cell? ⟨bl, 0, none⟩ = some (.int .i64 ((z - hln : Nat) : Nat)) := by rw [hw2]; exact World.cell?_setCell_same _ _ _ hcl0
    have hff2 : w2.frozen? ⟨bl, 0, none⟩ = false := by rw [hw2]; go_simp
    try rw [show W0.drew.setCell ⟨bl, 0, none⟩ (.int .i64 ((z - hln : Nat) : Nat)) = w2.drew by rw [hw2]; rfl]
    try rw [← hw2]
    obtain ⟨w3, hw3⟩ : ∃ W, W = w2.drew := ⟨_, rfl⟩
    have HM3 : Hid (Mod (fun j => j = bl) W0 w3) := Lib.hid (by rw [hw3]; exact hm2.drew)
    have hc3 : w3.cell? ⟨bl, 0, none⟩ = some (.int .i64 ((z - hln : Nat) : Nat)) := by rw [hw3]; exact hc2
    have HF3 : Hid (w3.frozen? ⟨bl, 0, none⟩ = false) := Lib.hid (by rw [hw3]; exact hff2)
    rw [← hw3]
    clear hw3 hw2 hm2 hc2 hff2
    have x4 : w3.cell? ⟨X, 4, none⟩ = some (.slice ha hln hc) := (HM3.out.cell (p := ⟨X, 4, none⟩) hXl (by have := HBX.out; show X ≠ bl; omega)).trans x4
    have hXl3 : X < w3.heap.size := Nat.lt_of_lt_of_le hXl HM3.out.size
    have hlb3 : bl < w3.heap.size := Nat.lt_of_lt_of_le hlb0 HM3.out.size
    have HC3 := Lib.hid hc3
    have HG3 : Hid (GrT okLf w3 lo hi (.slice ha hln hc) hs x.kids) := Lib.hid ((HG.out.calm okLf_firm (Calm.of (Mod.of_below HB0.out) (fun j _ h2 h3 => by have := HHI.out; omega))).calm okLf_firm (Calm.of HM3.out (fun j h1 h2 e => by have := HLO.out; omega)))
    have HMw : Hid (Mod (fun j => j = bl) w w3) := Lib.hid ((modB HB0.out).trans HM3.out)
    clear x0 x1 x2 hcl0 hf0
    go_wp2_with fail
    go_loopg [59] hln (fun g1 v59 wr => ∃ (i : Nat), v59 = .int .i64 i ∧ i ≤ hln ∧ hln - i ≤ g1 ∧ Hid (Below w3.heap.size w3 wr))
    case atStart => exact ⟨0, by go_num, by omega, by omega, Lib.hid (Below.refl _ _)⟩
    case round =>
      obtain ⟨i, rfl, hi', hg1, HB⟩ := hrel
      by_cases hlt : i < hln
      · have hltz : (i : Int) < (hln : Int) := by omega
        obtain ⟨hl', hr'⟩ := HG3.out.rd
        obtain ⟨b, off, y, hA, hbl, hx, d0, d1, d2, d3, d4⟩ := node_at (hr'.keep HB.out) (k := i) (by rw [hl']; exact hlt)
        have hkx : i < x.kids.length := by have := HXL.out; omega
        obtain ⟨l1, h1', q1, q2, q3, q4⟩ := HG3.out.mem i y x.kids[i] hx (List.getElem?_eq_getElem hkx)
        have HVL := Lib.hid (fun W => paValue_ok true y x.kids[i] l1 h1' W q4 (HV.out _ (List.getElem_mem hkx)))
        have HA := Lib.hid hA
        obtain ⟨ykk, yna, ynn, ypo, ya, yln, yc⟩ := y
        rw [show nhV ⟨ykk, yna, ynn, ypo, ya, yln, yc⟩ = .agg #[.int .i64 ykk, .string yna, .int .i64 ynn, .int .i64 (ypo : Nat), .slice ya yln yc] from rfl] at HVL
        subst hA
        dsimp only at d0 d1 d2 d3 d4
        clear hx hl' hr' hkx q1 q2 q3 q4
        go_upto_region 16 with (fail)
        obtain ⟨W1, hW1⟩ : ∃ W, W = wr.alloc (.cells #[.int .i64 ykk, .string yna, .int .i64 ynn, .int .i64 (ypo : Nat), .slice ya yln yc] 56) := ⟨_, rfl⟩
        obtain ⟨N, hN⟩ : ∃ N, N = wr.heap.size := ⟨_, rfl⟩
        have hb1 : Below wr.heap.size wr W1 := by rw [hW1]; exact (Below.refl _ _).alloc (Nat.le_refl _) _
        have y0 : W1.cell? ⟨N, 0, none⟩ = some (.int .i64 ykk) := by rw [hW1, hN]; go_simp
        have y1 : W1.cell? ⟨N, 1, none⟩ = some (.string yna) := by rw [hW1, hN]; go_simp
        have y2 : W1.cell? ⟨N, 2, none⟩ = some (.int .i64 ynn) := by rw [hW1, hN]; go_simp
        have y3 : W1.cell? ⟨N, 3, none⟩ = some (.int .i64 (ypo : Nat)) := by rw [hW1, hN]; go_simp
        have y4 : W1.cell? ⟨N, 4, none⟩ = some (.slice ya yln yc) := by rw [hW1, hN]; go_simp
        have hNl : N < W1.heap.size := by rw [hW1, hN]; simp
        have HB1 : Hid (Below w3.heap.size w3 W1) := Lib.hid (below_then HB.out hb1)
        rw [← hW1, ← hN]
        clear hW1 hN hb1 d0 d1 d2 d3 d4 hbl x4 hXl3 hc3 hlb3
        go_wp2_with fail
        refine (HVL.out W1).mono ?_
        rintro e W2 ⟨rfl, hb2⟩
        have HB2 : Hid (Below w3.heap.size w3 W2) := Lib.hid (below_then HB1.out hb2)
        clear hb2
        go_wp2_with fail
        go_roundg (hln - (i + 1))
        case measure => omega
        case rel => exact ⟨i + 1, by go_num, by omega, by omega, HB2⟩
      · have hltz : ¬ (i : Int) < (hln : Int) := by omega
        go_wp2_with fail
        go_ret
        exact ⟨rfl, HMw.out.trans (modB HB.out), (HB.out.cell (p := ⟨bl, 0, none⟩) hlb3).trans HC3.out, (HB.out.frozen (p := ⟨bl, 0, none⟩) hlb3).trans HF3.out⟩
set_option maxRecDepth 100000 in
set_option maxHeartbeats 8000000 in
theorem paItem_ok (h : NH) (x : Nd (Nd Lf)) (lo hi : Nat) (bl z : Nat) (w : World) (hok : okNd (okNd okLf) w lo hi h x) (hhi : hi ≤ w.heap.size) (hv : ViOk x) (hcl : w.cell? ⟨bl, 0, none⟩ = some (.int .i64 (z : Nat))) (hf : w.frozen? ⟨bl, 0, none⟩ = false) (hz : costI x ≤ z) (hz2 : z ≤ 2000) (hlo : bl < lo ∨ hi ≤ bl) :
    Calls Tryz.prog 65 #[nhV h, .pointer (some ⟨bl, 0, none⟩)] w fun e w' => e = .returned (.bool true) ∧ Mod (fun j => j = bl) w w' ∧ w'.cell? ⟨bl, 0, none⟩ = some (.int .i64 ((z - costI x : Nat) : Nat)) ∧ w'.frozen? ⟨bl, 0, none⟩ = false := by
  obtain ⟨hkk, hna, hnn, hpo, ha, hln, hc⟩ := h
  obtain ⟨e1, e2, e3, e4, hs, g⟩ := hok
  obtain ⟨hl, hr⟩ := g.rd
  dsimp only at e1 e2 e3 e4 g hl hr
  rw [show nhV ⟨hkk, hna, hnn, hpo, ha, hln, hc⟩ = .agg #[.int .i64 hkk, .string hna, .int .i64 hnn, .int .i64 (hpo : Nat), .slice ha hln hc] from rfl]
  obtain ⟨v1, v2, v3, v4, v5, art, v6, v7⟩ := hv
  rw [← e1] at v1
  rw [← e2] at v4 v5
  rw [← e3] at v2 v3 v6
  have hlb : bl < w.heap.size := World.block_lt_of_cell? _ _ hcl
  have HXL : Hid (x.kids.length = hln) := Lib.hid (by rw [← g.len, hl])
  have HG := Lib.hid g
  have HV := Lib.hid v7
  have HHI := Lib.hid hhi
  have HLO := Lib.hid hlo
  have HV6 := Lib.hid v6
  obtain ⟨ss, hss⟩ : ∃ ss, ss = x.kids.map (fun y => y.kids.length) := ⟨_, rfl⟩
  have HSS := Lib.hid hss
  have HCO : Hid (costI x = hln + ss.sum ∧ hln + ss.sum ≤ z) := Lib.hid (by unfold costI at hz ⊢; rw [← hss] at hz ⊢; rw [HXL.out] at hz ⊢; exact ⟨rfl, hz⟩)
  have hzl : hln ≤ z := by have := HCO.out; omega
  rw [HCO.out.1]
  have HGD : Hid (∀ w, Calls Tryz.prog 99 #[.string hna] w fun e w' => e = .returned (.bool true) ∧ w' = w) := Lib.hid (fun w => by have h := paGood_any hna w (by omega); rw [v5] at h; exact h)
  clear e1 e2 e3 e4 g v7 hhi hlo hr hz hss v5 v4 v6
  obtain ⟨W0, hW0⟩ : ∃ W, W = w.alloc (.cells #[.int .i64 hkk, .string hna, .int .i64 hnn, .int .i64 (hpo : Nat), .slice ha hln hc] 56) := ⟨_, rfl⟩
  have hb0 : Below w.heap.size w W0 := by rw [hW0]; exact (Below.refl _ _).alloc (Nat.le_refl _) _
  obtain ⟨X, hX⟩ : ∃ X, X = w.heap.size := ⟨_, rfl⟩
  have x0 : W0.cell? ⟨X, 0, none⟩ = some (.int .i64 hkk) := by rw [hW0, hX]; go_simp
  have x1 : W0.cell? ⟨X, 1, none⟩ = some (.string hna) := by rw [hW0, hX]; go_simp
  have x2 : W0.cell? ⟨X, 2, none⟩ = some (.int .i64 hnn) := by rw [hW0, hX]; go_simp
  have x4 : W0.cell? ⟨X, 4, none⟩ = some (.slice ha hln hc) := by rw [hW0, hX]; go_simp
  have hXl : X < W0.heap.size := by rw [hW0, hX]; simp
  have hcl0 : W0.cell? ⟨bl, 0, none⟩ = some (.int .i64 (z : Nat)) := (hb0.cell (p := ⟨bl, 0, none⟩) hlb).trans hcl
  have hf0 : W0.frozen? ⟨bl, 0, none⟩ = false := (hb0.frozen (p := ⟨bl, 0, none⟩) hlb).trans hf
  have hlb0 : bl < W0.heap.size := Nat.lt_of_lt_of_le hlb hb0.size
  have HBX : Hid (bl < X ∧ w.heap.size = X) := Lib.hid ⟨by rw [hX]; exact hlb, hX.symm⟩
  have HB0 := Lib.hid hb0
  have HW0 := Lib.hid hW0
  have HX := Lib.hid hX
  clear hW0 hX hcl hf hb0 hlb
  subst v1
  have h17 : ¬ hnn < 1 := by omega
  have h7 : ¬ 7 < hnn := by omega
  have hsub : IntKind.i64.wrap ((z : Int) - (hln : Int)) = ((z - hln : Nat) : Int) := by rw [IntWalk.i64_in _ (by omega)]; omega
  have hnn0 : ¬ (((z - hln : Nat) : Int) < 0) := by omega
  go_enter Tryz.func65, Tryz.ntmps65
  go_upto_region 1 with (fail)
  rw [← HW0.out, ← HX.out]
  clear HW0
  go_wp2_with fail
  refine (HGD.out W0).mono ?_
  rintro e w1 ⟨rfl, hw1⟩
  rw [hw1]
  clear hw1
  go_upto_region 3 with (fail)
  go_big_region
  obtain ⟨w2, hw2⟩ : ∃ W, W = W0.setCell ⟨bl, 0, none⟩ (.int .i64 ((z - hln : Nat) : Nat)) := ⟨_, rfl⟩
  have hm2 : Mod (fun j => j = bl) W0 w2 := by rw [hw2]; exact (show Mod (fun j => j = bl) W0 W0 from Mod.refl _ W0).setCell (p := ⟨bl, 0, none⟩) (.inl rfl) _
  have hc2 : w2.cell? ⟨bl, 0, none⟩ = some (.int .i64 ((z - hln : Nat) : Nat)) := by rw [hw2]; exact World.cell?_setCell_same _ _ _ hcl0
  have hff2 : w2.frozen? ⟨bl, 0, none⟩ = false := by rw [hw2]; go_simp
  try rw [show W0.drew.setCell ⟨bl, 0, none⟩ (.int .i64 ((z - hln : Nat) : Nat)) = w2.drew by rw [hw2]; rfl]
  try rw [← hw2]
  obtain ⟨w3, hw3⟩ : ∃ W, W = w2.drew := ⟨_, rfl⟩
  have HM3 : Hid (Mod (fun j => j = bl) W0 w3) := Lib.hid (by rw [hw3]; exact hm2.drew)
  have hc3 : w3.cell? ⟨bl, 0, none⟩ = some (.int .i64 ((z - hln : Nat) : Nat)) := by rw [hw3]; exact hc2
  have hf3 : w3.frozen? ⟨bl, 0, none⟩ = false := by rw [hw3]; exact hff2
  rw [← hw3]
  clear hw3 hw2 hm2 hc2 hff2
  have x2 : w3.cell? ⟨X, 2, none⟩ = some (.int .i64 hnn) := (HM3.out.cell (p := ⟨X, 2, none⟩) hXl (by have := HBX.out; show X ≠ bl; omega)).trans x2
  have x4 : w3.cell? ⟨X, 4, none⟩ = some (.slice ha hln hc) := (HM3.out.cell (p := ⟨X, 4, none⟩) hXl (by have := HBX.out; show X ≠ bl; omega)).trans x4
  have hXl3 : X < w3.heap.size := Nat.lt_of_lt_of_le hXl HM3.out.size
  have hlb3 : bl < w3.heap.size := Nat.lt_of_lt_of_le hlb0 HM3.out.size
  have HC3 := Lib.hid hc3
  have HF3 := Lib.hid hf3
  have HX2 := Lib.hid x2
  have HG3 : Hid (GrT (okNd okLf) w3 lo hi (.slice ha hln hc) hs x.kids) := Lib.hid ((HG.out.calm (okNd_firm okLf_firm) (Calm.of (Mod.of_below HB0.out) (fun j _ h2 h3 => by have := HHI.out; omega))).calm (okNd_firm okLf_firm) (Calm.of HM3.out (fun j h1 h2 e => by have := HLO.out; omega)))
  have HMw : Hid (Mod (fun j => j = bl) w w3) := Lib.hid ((modB HB0.out).trans HM3.out)
  have HHI3 : Hid (hi ≤ w3.heap.size ∧ X < w3.heap.size) := Lib.hid ⟨by have := HHI.out; have := HMw.out.size; omega, hXl3⟩
  have HZ2 := Lib.hid hz2
  have HZL := Lib.hid hzl
  clear x0 x1 hcl0 hf0 hf3
  go_wp2_with fail
  go_loopg [5, 42] hln (fun g1 v5 v42 wr => ∃ (i : Nat) (q : Bool), v5 = .bool q ∧ v42 = .int .i64 i ∧ i ≤ hln ∧ hln - i ≤ g1 ∧ Hid (q = true → art = true) ∧ Hid (Mod (fun j => j = bl) w3 wr) ∧ Hid (wr.cell? ⟨bl, 0, none⟩ = some (.int .i64 ((z - hln - (ss.take i).sum : Nat) : Nat)) ∧ wr.frozen? ⟨bl, 0, none⟩ = false))
  case atStart => exact ⟨0, false, rfl, by go_num, by omega, by omega, Lib.hid (fun h => by cases h), Lib.hid (Mod.refl _ _), Lib.hid ⟨by simpa using HC3.out, HF3.out⟩⟩
  case round =>
    obtain ⟨i, q, rfl, rfl, hi', hg1, HQ, HB, HC⟩ := hrel
    have hXn : X ≠ bl := by have := HBX.out; omega
    have HXN := Lib.hid hXn
    by_cases hlt : i < hln
    · have hltz : (i : Int) < (hln : Int) := by omega
      have HGr := Lib.hid (HG3.out.calm (okNd_firm okLf_firm) (Calm.of HB.out (fun j h1 h2 e => by have := HLO.out; omega)))
      obtain ⟨hl', hr'⟩ := HGr.out.rd
      obtain ⟨b, off, y, hA, hbl, hx, d0, d1, d2, d3, d4⟩ := node_at hr' (k := i) (by rw [hl']; exact hlt)
      have hkx : i < x.kids.length := by have := HXL.out; omega
      obtain ⟨l1, h1', q1, q2, q3, q4⟩ := HGr.out.mem i y x.kids[i] hx (List.getElem?_eq_getElem hkx)
      have hvp := HV.out _ (List.getElem_mem hkx)
      obtain ⟨c, hcd⟩ : ∃ c, c = x.kids[i].kids.length := ⟨_, rfl⟩
      have hsi : ss[i]? = some c := by rw [HSS.out, List.getElem?_map, List.getElem?_eq_getElem hkx, hcd]; rfl
      have HST : Hid ((ss.take (i + 1)).sum = (ss.take i).sum + c ∧ (ss.take (i + 1)).sum ≤ ss.sum) := Lib.hid ⟨sum_take_succ ss i c hsi, sum_take_le ss (i + 1)⟩
      have hyk : y.kind = if art = true then 4 else 3 := by
        rw [q4.1]
        rcases hvp.2.1 with ⟨h, h2, _⟩ | ⟨h, h2, _⟩ <;> rw [h, h2] <;> rfl
      have HVP : Hid (∀ W, Below wr.heap.size wr W → Calls Tryz.prog 100 #[nhV y, .pointer (some ⟨bl, 0, none⟩)] W fun e w' => e = .returned (.bool true) ∧ Mod (fun j => j = bl) W w' ∧ w'.cell? ⟨bl, 0, none⟩ = some (.int .i64 ((z - hln - (ss.take i).sum - c : Nat) : Nat)) ∧ w'.frozen? ⟨bl, 0, none⟩ = false) := Lib.hid (fun W hbW => by
        have hlbr : bl < wr.heap.size := World.block_lt_of_cell? _ _ HC.out.1
        have hhr : hi ≤ wr.heap.size := by have := HHI3.out.1; have := HB.out.size; omega
        have h := paPart_ok art y x.kids[i] l1 h1' bl (z - hln - (ss.take i).sum) W ((okNd_firm okLf_firm).calm q4 (Calm.of (Mod.of_below hbW) (fun j _ h2 h3 => by omega))) (by have := hbW.size; omega) hvp ((hbW.cell (p := ⟨bl, 0, none⟩) hlbr).trans HC.out.1) ((hbW.frozen (p := ⟨bl, 0, none⟩) hlbr).trans HC.out.2) (by have := HST.out; have := HCO.out; rw [← hcd]; omega) (by have := HZ2.out; omega) (by have := HLO.out; omega)
        rw [← hcd] at h
        exact h)
      have HYK := Lib.hid hyk
      have HA := Lib.hid hA
      obtain ⟨ykk, yna, ynn, ypo, ya, yln, yc⟩ := y
      rw [show nhV ⟨ykk, yna, ynn, ypo, ya, yln, yc⟩ = .agg #[.int .i64 ykk, .string yna, .int .i64 ynn, .int .i64 (ypo : Nat), .slice ya yln yc] from rfl] at HVP
      subst hA
      dsimp only at d0 d1 d2 d3 d4
      clear hx hl' hr' hkx q1 q2 q3 q4 hvp hsi hcd hyk
      go_upto_region 10 with (fail)
      obtain ⟨W1, hW1⟩ : ∃ W, W = wr.alloc (.cells #[.int .i64 ykk, .string yna, .int .i64 ynn, .int .i64 (ypo : Nat), .slice ya yln yc] 56) := ⟨_, rfl⟩
      obtain ⟨N, hN⟩ : ∃ N, N = wr.heap.size := ⟨_, rfl⟩
      have hb1 : Below wr.heap.size wr W1 := by rw [hW1]; exact (Below.refl _ _).alloc (Nat.le_refl _) _
      have y0 : W1.cell? ⟨N, 0, none⟩ = some (.int .i64 ykk) := by rw [hW1, hN]; go_simp
      have y1 : W1.cell? ⟨N, 1, none⟩ = some (.string yna) := by rw [hW1, hN]; go_simp
      have y2 : W1.cell? ⟨N, 2, none⟩ = some (.int .i64 ynn) := by rw [hW1, hN]; go_simp
      have y3 : W1.cell? ⟨N, 3, none⟩ = some (.int .i64 (ypo : Nat)) := by rw [hW1, hN]; go_simp
      have y4 : W1.cell? ⟨N, 4, none⟩ = some (.slice ya yln yc) := by rw [hW1, hN]; go_simp
      have hNl : N < W1.heap.size := by rw [hW1, hN]; simp
      have HB1 := Lib.hid hb1
      rw [← hW1, ← hN]
      clear hW1 hN hb1 d0 d1 d2 d3 d4 hbl x4 hXl3 hlb3 hc3 x2
      cases art
      case false =>
        have hy3 : ykk = 3 := HYK.out
        have hqf : q = false := by cases q; rfl; exact absurd (HQ.out rfl) (by simp)
        subst hy3 hqf
        go_wp2_with fail
        refine (HVP.out W1 HB1.out).mono ?_
        rintro e W2 ⟨rfl, hm2, hcc, hff⟩
        have HB2 : Hid (Mod (fun j => j = bl) w3 W2) := Lib.hid ((HB.out.trans (modB HB1.out)).trans hm2)
        have HC2 : Hid (W2.cell? ⟨bl, 0, none⟩ = some (.int .i64 ((z - hln - (ss.take (i + 1)).sum : Nat) : Nat)) ∧ W2.frozen? ⟨bl, 0, none⟩ = false) := Lib.hid ⟨by rw [HST.out.1, ← Nat.sub_sub]; exact hcc, hff⟩
        clear hm2 hcc hff
        go_wp2_with fail
        go_roundg (hln - (i + 1))
        case measure => omega
        case rel => exact ⟨i + 1, false, rfl, by go_num, by omega, by omega, Lib.hid (fun h => by cases h), HB2, HC2⟩
      case true =>
        have hy4 : ykk = 4 := HYK.out
        subst hy4
        go_wp2_with fail
        refine (HVP.out W1 HB1.out).mono ?_
        rintro e W2 ⟨rfl, hm2, hcc, hff⟩
        have HB2 : Hid (Mod (fun j => j = bl) w3 W2) := Lib.hid ((HB.out.trans (modB HB1.out)).trans hm2)
        have HC2 : Hid (W2.cell? ⟨bl, 0, none⟩ = some (.int .i64 ((z - hln - (ss.take (i + 1)).sum : Nat) : Nat)) ∧ W2.frozen? ⟨bl, 0, none⟩ = false) := Lib.hid ⟨by rw [HST.out.1, ← Nat.sub_sub]; exact hcc, hff⟩
        clear hm2 hcc hff
        go_wp2_with fail
        go_roundg (hln - (i + 1))
        case measure => omega
        case rel => exact ⟨i + 1, true, rfl, by go_num, by omega, by omega, Lib.hid (fun _ => trivial), HB2, HC2⟩
    · have hltz : ¬ (i : Int) < (hln : Int) := by omega
      have HE : Hid (wr.cell? ⟨bl, 0, none⟩ = some (.int .i64 ((z - (hln + ss.sum) : Nat) : Nat))) := Lib.hid (by
        have h := HC.out.1
        rw [List.take_of_length_le (by rw [HSS.out, List.length_map, HXL.out]; omega)] at h
        rw [← Nat.sub_sub]; exact h)
      have x2 := (HB.out.cell (p := ⟨X, 2, none⟩) hXl3 hXn).trans x2
      have hXl4 : X < wr.heap.size := Nat.lt_of_lt_of_le hXl3 HB.out.size
      cases q
      · go_wp2_with fail
        go_ret
        exact ⟨rfl, HMw.out.trans HB.out, HE.out, HC.out.2⟩
      · have h77 : hnn = 7 := HV6.out (HQ.out rfl)
        subst h77
        go_wp2_with fail
        go_ret
        exact ⟨rfl, HMw.out.trans HB.out, HE.out, HC.out.2⟩
def VrOk (x : Nd (Nd (Nd Lf))) : Prop := x.kind = 1 ∧ x.name = ⟨#[]⟩ ∧ x.n = 0 ∧ x.kids.length + (x.kids.map costI).sum ≤ 1499 ∧ ∀ y ∈ x.kids, ViOk y
set_option maxRecDepth 100000 in
set_option maxHeartbeats 8000000 in
theorem paValid_ok (h : NH) (x : Nd (Nd (Nd Lf))) (lo hi : Nat) (w : World) (hok : okNd (okNd (okNd okLf)) w lo hi h x) (hhi : hi ≤ w.heap.size) (hv : VrOk x) :
    Calls Tryz.prog 34 #[nhV h] w fun e w' => e = .returned (.bool true) ∧ Below w.heap.size w w' := by
  obtain ⟨hkk, hna, hnn, hpo, ha, hln, hc⟩ := h
  obtain ⟨e1, e2, e3, e4, hs, g⟩ := hok
  obtain ⟨hl, hr⟩ := g.rd
  dsimp only at e1 e2 e3 e4 g hl hr
  rw [show nhV ⟨hkk, hna, hnn, hpo, ha, hln, hc⟩ = .agg #[.int .i64 hkk, .string hna, .int .i64 hnn, .int .i64 (hpo : Nat), .slice ha hln hc] from rfl]
  obtain ⟨v1, v2, v3, v4, v7⟩ := hv
  rw [← e1] at v1
  rw [← e2] at v2
  rw [← e3] at v3
  have HXL : Hid (x.kids.length = hln) := Lib.hid (by rw [← g.len, hl])
  have HG := Lib.hid g
  have HV := Lib.hid v7
  have HHI := Lib.hid hhi
  obtain ⟨ss, hss⟩ : ∃ ss, ss = x.kids.map costI := ⟨_, rfl⟩
  have HSS := Lib.hid hss
  have HCO : Hid (hln + ss.sum ≤ 1499) := Lib.hid (by rw [← hss, HXL.out] at v4; exact v4)
  have hzl : hln ≤ 1499 := by have := HCO.out; omega
  clear e1 e2 e3 e4 g v7 hhi hr hss v4
  subst v1 v2 v3
  obtain ⟨W0, hW0⟩ : ∃ W, W = (w.alloc (.cells #[.int .i64 1, .string ⟨#[]⟩, .int .i64 0, .int .i64 (hpo : Nat), .slice ha hln hc] 56)).alloc (.cells #[.int .i64 ((1499 - hln : Nat) : Nat)] 3) := ⟨_, rfl⟩
  have hb0 : Below w.heap.size w W0 := by rw [hW0]; exact ((Below.refl _ _).alloc (Nat.le_refl _) _).alloc (by simp) _
  obtain ⟨X, hX⟩ : ∃ X, X = w.heap.size := ⟨_, rfl⟩
  have x0 : W0.cell? ⟨X, 0, none⟩ = some (.int .i64 1) := by rw [hW0, hX]; go_simp
  have x1 : W0.cell? ⟨X, 1, none⟩ = some (.string ⟨#[]⟩) := by rw [hW0, hX]; go_simp
  have x2 : W0.cell? ⟨X, 2, none⟩ = some (.int .i64 0) := by rw [hW0, hX]; go_simp
  have x4 : W0.cell? ⟨X, 4, none⟩ = some (.slice ha hln hc) := by rw [hW0, hX]; go_simp
  have HL0 : Hid (Own W0 (X + 1) 3 1 (fun _ => .int .i64 ((1499 - hln : Nat) : Nat))) := Lib.hid (by rw [hW0, hX]; exact Own.newAt _ 3 #[.int .i64 ((1499 - hln : Nat) : Nat)] _ (by simp) rfl (fun i hi => by match i, hi with | 0, _ => rfl))
  have hXl : X < W0.heap.size := by have := HL0.out.lt; omega
  have HB0 := Lib.hid hb0
  have HW0 := Lib.hid hW0
  have HX := Lib.hid hX
  clear hW0 hX hb0
  have hsub : IntKind.i64.wrap ((1499 : Int) - (hln : Int)) = ((1499 - hln : Nat) : Int) := by rw [IntWalk.i64_in _ (by omega)]; omega
  have hnn0 : ¬ (((1499 - hln : Nat) : Int) < 0) := by omega
  go_enter Tryz.func34, Tryz.ntmps34
  go_upto_region 2 with (fail)
  rw [← HW0.out, ← HX.out]
  clear HW0
  have l0 : W0.cell? ⟨X + 1, 0, none⟩ = some (.int .i64 ((1499 - hln : Nat) : Nat)) := HL0.out.cell (i := 0) (by omega)
  have hLl : X + 1 < W0.heap.size := HL0.out.lt
  have HG0 : Hid (GrT (okNd (okNd okLf)) W0 lo hi (.slice ha hln hc) hs x.kids) := Lib.hid (HG.out.calm (okNd_firm (okNd_firm okLf_firm)) (Calm.of (Mod.of_below HB0.out) (fun j _ h2 h3 => by have := HHI.out; omega)))
  have HHX : Hid (hi ≤ X ∧ w.heap.size = X ∧ X + 1 < W0.heap.size) := Lib.hid ⟨by have := HHI.out; have := HX.out; omega, HX.out.symm, hLl⟩
  have HC0 : Hid (W0.cell? ⟨X + 1, 0, none⟩ = some (.int .i64 ((1499 - hln : Nat) : Nat)) ∧ W0.frozen? ⟨X + 1, 0, none⟩ = false) := Lib.hid ⟨l0, HL0.out.frozen 0⟩
  go_wp2_with fail
  go_loopg [30] hln (fun g1 v30 wr => ∃ (i : Nat), v30 = .int .i64 i ∧ i ≤ hln ∧ hln - i ≤ g1 ∧ Hid (Mod (fun j => j = X + 1) W0 wr) ∧ Hid (wr.cell? ⟨X + 1, 0, none⟩ = some (.int .i64 ((1499 - hln - (ss.take i).sum : Nat) : Nat)) ∧ wr.frozen? ⟨X + 1, 0, none⟩ = false))
  case atStart => exact ⟨0, by go_num, by omega, by omega, Lib.hid (Mod.refl _ _), Lib.hid ⟨by simpa using HC0.out.1, HC0.out.2⟩⟩
  case round =>
    obtain ⟨i, rfl, hi', hg1, HB, HC⟩ := hrel
    by_cases hlt : i < hln
    · have hltz : (i : Int) < (hln : Int) := by omega
      have HGr := Lib.hid (HG0.out.calm (okNd_firm (okNd_firm okLf_firm)) (Calm.of HB.out (fun j h1 h2 e => by have := HHX.out; omega)))
      obtain ⟨hl', hr'⟩ := HGr.out.rd
      obtain ⟨b, off, y, hA, hbl, hx, d0, d1, d2, d3, d4⟩ := node_at hr' (k := i) (by rw [hl']; exact hlt)
      have hkx : i < x.kids.length := by have := HXL.out; omega
      obtain ⟨l1, h1', q1, q2, q3, q4⟩ := HGr.out.mem i y x.kids[i] hx (List.getElem?_eq_getElem hkx)
      have hvp := HV.out _ (List.getElem_mem hkx)
      obtain ⟨c, hcd⟩ : ∃ c, c = costI x.kids[i] := ⟨_, rfl⟩
      have hsi : ss[i]? = some c := by rw [HSS.out, List.getElem?_map, List.getElem?_eq_getElem hkx, hcd]; rfl
      have HST : Hid ((ss.take (i + 1)).sum = (ss.take i).sum + c ∧ (ss.take (i + 1)).sum ≤ ss.sum) := Lib.hid ⟨sum_take_succ ss i c hsi, sum_take_le ss (i + 1)⟩
      have HVP : Hid (∀ W, Below wr.heap.size wr W → Calls Tryz.prog 65 #[nhV y, .pointer (some ⟨X + 1, 0, none⟩)] W fun e w' => e = .returned (.bool true) ∧ Mod (fun j => j = X + 1) W w' ∧ w'.cell? ⟨X + 1, 0, none⟩ = some (.int .i64 ((1499 - hln - (ss.take i).sum - c : Nat) : Nat)) ∧ w'.frozen? ⟨X + 1, 0, none⟩ = false) := Lib.hid (fun W hbW => by
        have hlbr : X + 1 < wr.heap.size := World.block_lt_of_cell? _ _ HC.out.1
        have h := paItem_ok y x.kids[i] l1 h1' (X + 1) (1499 - hln - (ss.take i).sum) W ((okNd_firm (okNd_firm okLf_firm)).calm q4 (Calm.of (Mod.of_below hbW) (fun j _ h2 h3 => by have := HHX.out; omega))) (by have := hbW.size; have := HHX.out; omega) hvp ((hbW.cell (p := ⟨X + 1, 0, none⟩) hlbr).trans HC.out.1) ((hbW.frozen (p := ⟨X + 1, 0, none⟩) hlbr).trans HC.out.2) (by have := HST.out; have := HCO.out; rw [← hcd]; omega) (by omega) (by have := HHX.out; omega)
        rw [← hcd] at h
        exact h)
      have HA := Lib.hid hA
      obtain ⟨ykk, yna, ynn, ypo, ya, yln, yc⟩ := y
      rw [show nhV ⟨ykk, yna, ynn, ypo, ya, yln, yc⟩ = .agg #[.int .i64 ykk, .string yna, .int .i64 ynn, .int .i64 (ypo : Nat), .slice ya yln yc] from rfl] at HVP
      subst hA
      dsimp only at d0 d1 d2 d3 d4
      clear hx hl' hr' hkx q1 q2 q3 q4 hvp hsi hcd
      go_upto_region 7 with (fail)
      obtain ⟨W1, hW1⟩ : ∃ W, W = wr.alloc (.cells #[.int .i64 ykk, .string yna, .int .i64 ynn, .int .i64 (ypo : Nat), .slice ya yln yc] 56) := ⟨_, rfl⟩
      obtain ⟨N, hN⟩ : ∃ N, N = wr.heap.size := ⟨_, rfl⟩
      have hb1 : Below wr.heap.size wr W1 := by rw [hW1]; exact (Below.refl _ _).alloc (Nat.le_refl _) _
      have y0 : W1.cell? ⟨N, 0, none⟩ = some (.int .i64 ykk) := by rw [hW1, hN]; go_simp
      have y1 : W1.cell? ⟨N, 1, none⟩ = some (.string yna) := by rw [hW1, hN]; go_simp
      have y2 : W1.cell? ⟨N, 2, none⟩ = some (.int .i64 ynn) := by rw [hW1, hN]; go_simp
      have y3 : W1.cell? ⟨N, 3, none⟩ = some (.int .i64 (ypo : Nat)) := by rw [hW1, hN]; go_simp
      have y4 : W1.cell? ⟨N, 4, none⟩ = some (.slice ya yln yc) := by rw [hW1, hN]; go_simp
      have hNl : N < W1.heap.size := by rw [hW1, hN]; simp
      have HB1 := Lib.hid hb1
      rw [← hW1, ← hN]
      clear hW1 hN hb1 d0 d1 d2 d3 d4 hbl x4 x0 x1 x2 hXl l0 hLl
      go_wp2_with fail
      refine (HVP.out W1 HB1.out).mono ?_
      rintro e W2 ⟨rfl, hm2, hcc, hff⟩
      have HB2 : Hid (Mod (fun j => j = X + 1) W0 W2) := Lib.hid ((HB.out.trans (modB HB1.out)).trans hm2)
      have HC2 : Hid (W2.cell? ⟨X + 1, 0, none⟩ = some (.int .i64 ((1499 - hln - (ss.take (i + 1)).sum : Nat) : Nat)) ∧ W2.frozen? ⟨X + 1, 0, none⟩ = false) := Lib.hid ⟨by rw [HST.out.1, ← Nat.sub_sub]; exact hcc, hff⟩
      clear hm2 hcc hff
      go_wp2_with fail
      go_roundg (hln - (i + 1))
      case measure => omega
      case rel => exact ⟨i + 1, by go_num, by omega, by omega, HB2, HC2⟩
    · have hltz : ¬ (i : Int) < (hln : Int) := by omega
      go_wp2_with fail
      go_ret
      exact ⟨rfl, HB0.out.trans (HB.out.below (by have := HHX.out; omega) (fun j _ e => by have := HHX.out; omega))⟩
end Go.Proofs.YtoekpdnpncgeeaaGreat
