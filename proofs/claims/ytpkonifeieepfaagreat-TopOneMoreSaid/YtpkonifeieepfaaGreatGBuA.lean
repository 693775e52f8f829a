/-
Several texts in one: BuA, MapV, BuB, BuC.
-/
import Derived.Test.YtpkonifeieepfaaGreatCPsU
import Derived.Test.YtpkonifeieepfaaGreatGLPrV
import Derived.Test.YtpkonifeieepfaaGreatGLSiteR
import Derived.Test.YtpkonifeieepfaaGreatGBase
import Derived.Maps.Own
import Derived.Maps.Views
import Derived.Maps.OwnSet
import Derived.Maps.Range
/-
site.Build: numbers of an attribute.
-/
namespace Go.Proofs.YtpkonifeieepfaaGreat
open Go.RowKit
set_option linter.unusedVariables false
set_option linter.unusedSimpArgs false
def encSp (p : Int × Int) : List Value := [.int .i64 p.1, .int .i64 p.2]
theorem encSp_len (p : Int × Int) : (encSp p).length = 2 := rfl
def kN (l : List Lf) (i : Nat) : Int := (l[i]?.map (·.n)).getD 0
set_option maxRecDepth 100000 in
set_option maxHeartbeats 8000000 in
theorem stNumbers_ok (h : NH) (x : Nd Lf) (lo hi : Nat) (A : Option Addr) (cA m : Nat) (sp : List (Int × Int)) (w : World) (hok : okNd okLf w lo hi h x) (hhi : hi ≤ w.heap.size) (hsp : Rd 2 encSp w A sp) (hl : x.kids.length = m) (hl2 : sp.length = m) (hk : ∀ y ∈ x.kids, y.kind = 6) (hin : ∀ (k : Nat) (p : Int × Int), sp[k]? = some p → inside (kN x.kids k) p.1 p.2 = true) (hm : m ≤ 10) :
    Calls Tryz.prog 63 #[nhV h, .slice A m cA] w fun e w' => ∃ g, e = .returned (.slice (some ⟨g, 0, none⟩) m m) ∧ Own w' g 3 m (fun i => .int .i64 (kN x.kids i)) ∧ w.heap.size ≤ g ∧ Below w.heap.size w w' := by
  obtain ⟨hkk, hna, hnn, hpo, ha, hln, hc⟩ := h
  obtain ⟨e1, e2, e3, e4, hs, g⟩ := hok
  obtain ⟨hl0, hr⟩ := g.rd
  dsimp only at e1 e2 e3 e4 g hl0 hr
  rw [show nhV ⟨hkk, hna, hnn, hpo, ha, hln, hc⟩ = .agg #[.int .i64 hkk, .string hna, .int .i64 hnn, .int .i64 (hpo : Nat), .slice ha hln hc] from rfl]
  have HXL : Hid (x.kids.length = m) := Lib.hid hl
  have hlm : hln = m := by rw [← hl0, g.len, hl]
  subst hlm
  have HG := Lib.hid g
  have HK := Lib.hid hk
  have HIN0 := Lib.hid hin
  have HHI := Lib.hid hhi
  have HSP := Lib.hid hsp
  have HSL := Lib.hid hl2
  clear e1 e2 e3 e4 g hk hin hhi hr hl0 hl hsp hl2
  obtain ⟨W0, hW0⟩ : ∃ W, W = w.alloc (.cells #[.int .i64 hkk, .string hna, .int .i64 hnn, .int .i64 (hpo : Nat), .slice ha hln hc] 49) := ⟨_, rfl⟩
  have hb0 : Below w.heap.size w W0 := by rw [hW0]; exact (Below.refl _ _).alloc (Nat.le_refl _) _
  obtain ⟨X, hX⟩ : ∃ X, X = w.heap.size := ⟨_, rfl⟩
  have x4 : W0.cell? ⟨X, 4, none⟩ = some (.slice ha hln hc) := by rw [hW0, hX]; go_simp
  have hXl : X < W0.heap.size := by rw [hW0, hX]; simp
  have HB0 := Lib.hid hb0
  have HW0 := Lib.hid hW0
  have HX := Lib.hid hX
  have HG0 : Hid (GrT okLf W0 lo hi (.slice ha hln hc) hs x.kids) := Lib.hid (HG.out.calm okLf_firm (Calm.of (Mod.of_below hb0) (fun j _ h2 h3 => by have := HHI.out; omega)))
  clear hW0 hX hb0
  go_enter Tryz.func63, Tryz.ntmps63
  go_upto_region 1 with (fail)
  rw [← HW0.out, ← HX.out]
  clear HW0
  go_wp2_with fail
  go_loopg [21] hln (fun g1 v21 wr => ∃ (i : Nat), v21 = .int .i64 i ∧ i ≤ hln ∧ hln - i ≤ g1 ∧ Hid (Below W0.heap.size W0 wr))
  case atStart => exact ⟨0, by go_num, by omega, by omega, Lib.hid (Below.refl _ _)⟩
  case round =>
    obtain ⟨i, rfl, hi', hg1, HB⟩ := hrel
    by_cases hlt : i < hln
    · have hltz : (i : Int) < (hln : Int) := by omega
      have HGr := Lib.hid (HG0.out.calm okLf_firm (Calm.of (Mod.of_below HB.out) (fun j _ h2 h3 => by have := HHI.out; have := HB0.out.size; omega)))
      obtain ⟨hl', hr'⟩ := HGr.out.rd
      obtain ⟨b, off, y, hA, hbl, hx, d0, d1, d2, d3, d4⟩ := node_at hr' (k := i) (by rw [hl']; exact hlt)
      have hkx : i < x.kids.length := by have := HXL.out; omega
      obtain ⟨l1, h1', q1, q2, q3, q4⟩ := HGr.out.mem i y x.kids[i] hx (List.getElem?_eq_getElem hkx)
      have hyk : y.kind = 6 := by rw [q4.1]; exact HK.out _ (List.getElem_mem hkx)
      have hyn : y.n = kN x.kids i := by rw [q4.2.2.1]; unfold kN; rw [List.getElem?_eq_getElem hkx]; rfl
      have HA := Lib.hid hA
      have HYN := Lib.hid hyn
      obtain ⟨ykk, yna, ynn, ypo, ya, yln, yc⟩ := y
      have hyk : ykk = 6 := hyk
      subst hA hyk
      dsimp only at d0 d1 d2 d3 d4
      clear hx hl' hr' q1 q2 q3 q4 hyn
      go_upto_region 6 with (fail)
      obtain ⟨W1, hW1⟩ : ∃ W, W = wr.alloc (.cells #[.int .i64 6, .string yna, .int .i64 ynn, .int .i64 (ypo : Nat), .slice ya yln yc] 49) := ⟨_, rfl⟩
      obtain ⟨N, hN⟩ : ∃ N, N = wr.heap.size := ⟨_, rfl⟩
      have hb1 : Below wr.heap.size wr W1 := by rw [hW1]; exact (Below.refl _ _).alloc (Nat.le_refl _) _
      have y0 : W1.cell? ⟨N, 0, none⟩ = some (.int .i64 6) := by rw [hW1, hN]; go_simp
      have y2 : W1.cell? ⟨N, 2, none⟩ = some (.int .i64 ynn) := by rw [hW1, hN]; go_simp
      have hNl : N < W1.heap.size := by rw [hW1, hN]; simp
      have HNG : Hid (N = wr.heap.size) := Lib.hid hN
      rw [← hW1, ← hN]
      have HB1 : Hid (Below W0.heap.size W0 W1) := Lib.hid (below_then HB.out hb1)
      clear hW1 hN hb1 d0 d1 d2 d3 d4 hbl x4 hXl
      go_wp2_with fail
      go_roundg (hln - (i + 1))
      case measure => omega
      case rel => exact ⟨i + 1, by go_num, by omega, by omega, HB1⟩
    · have hltz : ¬ (i : Int) < (hln : Int) := by omega
      have x4 := (HB.out.cell (p := ⟨X, 4, none⟩) hXl).trans x4
      have hXl : X < wr.heap.size := Nat.lt_of_lt_of_le hXl HB.out.size
      obtain ⟨W2, hmk, HO2, hb2, hs2⟩ := mk_intsW hln (by omega) wr
      obtain ⟨G, hG⟩ : ∃ G, G = wr.heap.size := ⟨_, rfl⟩
      rw [← hG] at hmk HO2
      have x4b : W2.cell? ⟨X, 4, none⟩ = some (.slice ha hln hc) := (hb2.cell (p := ⟨X, 4, none⟩) hXl).trans x4
      have hXl2 : X < W2.heap.size := Nat.lt_of_lt_of_le hXl hb2.size
      have HB2 : Hid (Below W0.heap.size W0 W2) := Lib.hid (below_then HB.out hb2)
      have HGG : Hid (X < G ∧ W0.heap.size ≤ G ∧ G < W2.heap.size) := Lib.hid ⟨by omega, by rw [hG]; exact HB.out.size, HO2.lt⟩
      have HO2 : Hid (Own W2 G 3 hln (fun j => .int .i64 (if j < 0 then kN x.kids j else 0))) := Lib.hid (HO2.congr (fun j _ => by simp))
      clear hb2 hs2 hG
      have HG2 : Hid (GrT okLf W2 lo hi (.slice ha hln hc) hs x.kids) := Lib.hid (HG0.out.calm okLf_firm (Calm.of (Mod.of_below HB2.out) (fun j _ h2 h3 => by have := HHI.out; have := HB0.out.size; omega)))
      have HSP2 : Hid (Rd 2 encSp W2 A sp) := Lib.hid ((HSP.out.keep HB0.out).keep HB2.out)
      have HBS2 : Hid (W0.heap.size ≤ W2.heap.size ∧ w.heap.size ≤ W0.heap.size) := Lib.hid ⟨HB2.out.size, HB0.out.size⟩
      clear x4 hXl
      go_wp2_with fail
      clear hmk
      go_loopg [37] hln (fun g1 v37 wr => ∃ (i : Nat), v37 = .int .i64 i ∧ i ≤ hln ∧ hln - i ≤ g1 ∧ Hid (Mod (fun j => j = G) W2 wr) ∧ Hid (Own wr G 3 hln (fun j => .int .i64 (if j < i then kN x.kids j else 0))))
      case atStart => exact ⟨0, by go_num, by omega, by omega, Lib.hid (Mod.refl _ _), HO2⟩
      case round =>
        clear hltz
        obtain ⟨i, rfl, hi', hg1, HB, HO⟩ := hrel
        by_cases hlt : i < hln
        · have hltz : (i : Int) < (hln : Int) := by omega
          have HGr := Lib.hid (HG2.out.calm okLf_firm (Calm.of HB.out (fun j _ h2 h3 => by have := HHI.out; have := HGG.out; have := HBS2.out; omega)))
          obtain ⟨hl', hr'⟩ := HGr.out.rd
          obtain ⟨b, off, y, hA, hbl, hx, d0, d1, d2, d3, d4⟩ := node_at hr' (k := i) (by rw [hl']; exact hlt)
          have hkx : i < x.kids.length := by have := HXL.out; omega
          obtain ⟨l1, h1', q1, q2, q3, q4⟩ := HGr.out.mem i y x.kids[i] hx (List.getElem?_eq_getElem hkx)
          have hyk : y.kind = 6 := by rw [q4.1]; exact HK.out _ (List.getElem_mem hkx)
          have hyn : y.n = kN x.kids i := by rw [q4.2.2.1]; unfold kN; rw [List.getElem?_eq_getElem hkx]; rfl
          have HA := Lib.hid hA
          have HYN := Lib.hid hyn
          obtain ⟨ykk, yna, ynn, ypo, ya, yln, yc⟩ := y
          have hyk : ykk = 6 := hyk
          subst hA hyk
          dsimp only at d0 d1 d2 d3 d4
          clear hx hl' hr' q1 q2 q3 q4 hyn
          go_upto_region 13 with (fail)
          obtain ⟨W1, hW1⟩ : ∃ W, W = wr.alloc (.cells #[.int .i64 6, .string yna, .int .i64 ynn, .int .i64 (ypo : Nat), .slice ya yln yc] 49) := ⟨_, rfl⟩
          obtain ⟨N, hN⟩ : ∃ N, N = wr.heap.size := ⟨_, rfl⟩
          have hb1 : Below wr.heap.size wr W1 := by rw [hW1]; exact (Below.refl _ _).alloc (Nat.le_refl _) _
          have y0 : W1.cell? ⟨N, 0, none⟩ = some (.int .i64 6) := by rw [hW1, hN]; go_simp
          have y2 : W1.cell? ⟨N, 2, none⟩ = some (.int .i64 ynn) := by rw [hW1, hN]; go_simp
          have hNl : N < W1.heap.size := by rw [hW1, hN]; simp
          have HNG : Hid (N = wr.heap.size) := Lib.hid hN
          rw [← hW1, ← hN]
          obtain ⟨sb, so, p, hAs, hsl0, hxp, hcp⟩ := (HSP2.out.mod HB.out (fun a ha _ e => by obtain ⟨b', o', h1, h2, _⟩ := HSP.out (by have := HSL.out; omega); rw [ha] at h1; injection h1 with h1; rw [h1] at e; have := HGG.out; have := HBS2.out; have := HB0.out.size; simp at e; omega)).at_ (k := i) (by rw [HSL.out]; exact hlt)
          have p0 := hcp 0 _ rfl
          have p1 := hcp 1 _ rfl
          have HIN : Hid (inside ynn p.1 p.2 = true) := Lib.hid (by have h := HIN0.out i p hxp; rw [← HYN.out] at h; exact h)
          obtain ⟨plo, phi⟩ := p
          dsimp only at p0 p1 HIN
          have p0 : W1.cell? ⟨sb, so + i * 2, none⟩ = some (.int .i64 plo) := (hb1.cell (p := ⟨sb, so + i * 2, none⟩) hsl0).trans p0
          have p1 : W1.cell? ⟨sb, so + i * 2 + 1, none⟩ = some (.int .i64 phi) := (hb1.cell (p := ⟨sb, so + i * 2 + 1, none⟩) hsl0).trans p1
          have hsl : sb < W1.heap.size := Nat.lt_of_lt_of_le hsl0 hb1.size
          have HAS := Lib.hid hAs
          subst hAs
          have HMo1 : Hid (Mod (fun j => j = G) W2 W1) := Lib.hid (HB.out.trans (modB hb1))
          have HO1 := Lib.hid (HO.out.keep hb1 HO.out.lt)
          have HNG2 : Hid (G < N) := Lib.hid (by have := HO.out.lt; have := HNG.out; omega)
          clear hW1 hN hb1 d0 d1 d2 d3 d4 hbl hcp hxp hsl0
          refine region_z (S := fun w' => Below W1.heap.size W1 w') [] (by kernel_rfl) (below_drewN' W1) (fun hHeld => ?_)
          refine wpAnyZ_take (i := 0) (v := .slice (some ⟨sb, so, none⟩) hln cA) [] rfl (by kernel_rfl) (by kernel_rfl) (by kernel_rfl) (by kernel_rfl) (fun _ _ _ h => h) (Or.inl ⟨by kernel_rfl, fun w' hSw => ?_⟩) hHeld ?_
          · have s0 := (hSw.cell (p := ⟨N, 2, none⟩) hNl).trans y2
            have s1 := (hSw.cell (p := ⟨sb, so + i * 2, none⟩) hsl).trans p0
            have s2 := (hSw.cell (p := ⟨sb, so + i * 2 + 1, none⟩) hsl).trans p1
            have s3 : N < w'.heap.size := Nat.lt_of_lt_of_le hNl hSw.size
            have s4 : sb < w'.heap.size := Nat.lt_of_lt_of_le hsl hSw.size
            clear hHeld hSw
            go_simp
          simp only [Act.put, List.getElem_toArray, List.getElem_cons_zero, List.getElem_cons_succ, List.setIfInBounds_toArray, List.set_cons_zero, List.set_cons_succ]
          refine wpAnyZ_take (i := 1) (v := .int .i64 (i : Nat)) [] rfl (by kernel_rfl) (by kernel_rfl) (by kernel_rfl) (by kernel_rfl) (fun _ _ _ h => h) (Or.inl ⟨by kernel_rfl, fun w' hSw => ?_⟩) hHeld ?_
          · have s0 := (hSw.cell (p := ⟨N, 2, none⟩) hNl).trans y2
            have s1 := (hSw.cell (p := ⟨sb, so + i * 2, none⟩) hsl).trans p0
            have s2 := (hSw.cell (p := ⟨sb, so + i * 2 + 1, none⟩) hsl).trans p1
            have s3 : N < w'.heap.size := Nat.lt_of_lt_of_le hNl hSw.size
            have s4 : sb < w'.heap.size := Nat.lt_of_lt_of_le hsl hSw.size
            clear hHeld hSw
            go_simp
          simp only [Act.put, List.getElem_toArray, List.getElem_cons_zero, List.getElem_cons_succ, List.setIfInBounds_toArray, List.set_cons_zero, List.set_cons_succ]
          refine wpAnyZ_take (i := 2) (v := .pointer (some ⟨sb, so + i * 2, none⟩)) [] rfl (by kernel_rfl) (by kernel_rfl) (by kernel_rfl) (by kernel_rfl) (fun _ _ _ h => h) (Or.inl ⟨by kernel_rfl, fun w' hSw => ?_⟩) hHeld ?_
          · have s0 := (hSw.cell (p := ⟨N, 2, none⟩) hNl).trans y2
            have s1 := (hSw.cell (p := ⟨sb, so + i * 2, none⟩) hsl).trans p0
            have s2 := (hSw.cell (p := ⟨sb, so + i * 2 + 1, none⟩) hsl).trans p1
            have s3 : N < w'.heap.size := Nat.lt_of_lt_of_le hNl hSw.size
            have s4 : sb < w'.heap.size := Nat.lt_of_lt_of_le hsl hSw.size
            clear hHeld hSw
            go_simp
          simp only [Act.put, List.getElem_toArray, List.getElem_cons_zero, List.getElem_cons_succ, List.setIfInBounds_toArray, List.set_cons_zero, List.set_cons_succ]
          refine wpAnyZ_take (i := 3) (v := .agg #[.int .i64 plo, .int .i64 phi]) [] rfl (by kernel_rfl) (by kernel_rfl) (by kernel_rfl) (by kernel_rfl) (fun _ _ _ h => h) (Or.inl ⟨by kernel_rfl, fun w' hSw => ?_⟩) hHeld ?_
          · have s0 := (hSw.cell (p := ⟨N, 2, none⟩) hNl).trans y2
            have s1 := (hSw.cell (p := ⟨sb, so + i * 2, none⟩) hsl).trans p0
            have s2 := (hSw.cell (p := ⟨sb, so + i * 2 + 1, none⟩) hsl).trans p1
            have s3 : N < w'.heap.size := Nat.lt_of_lt_of_le hNl hSw.size
            have s4 : sb < w'.heap.size := Nat.lt_of_lt_of_le hsl hSw.size
            clear hHeld hSw
            go_simp
          simp only [Act.put, List.getElem_toArray, List.getElem_cons_zero, List.getElem_cons_succ, List.setIfInBounds_toArray, List.set_cons_zero, List.set_cons_succ]
          refine wpAnyZ_take (i := 4) (v := .pointer (some ⟨N, 2, none⟩)) [] rfl (by kernel_rfl) (by kernel_rfl) (by kernel_rfl) (by kernel_rfl) (fun _ _ _ h => h) (Or.inl ⟨by kernel_rfl, fun w' hSw => ?_⟩) hHeld ?_
          · have s0 := (hSw.cell (p := ⟨N, 2, none⟩) hNl).trans y2
            have s1 := (hSw.cell (p := ⟨sb, so + i * 2, none⟩) hsl).trans p0
            have s2 := (hSw.cell (p := ⟨sb, so + i * 2 + 1, none⟩) hsl).trans p1
            have s3 : N < w'.heap.size := Nat.lt_of_lt_of_le hNl hSw.size
            have s4 : sb < w'.heap.size := Nat.lt_of_lt_of_le hsl hSw.size
            clear hHeld hSw
            go_simp
          simp only [Act.put, List.getElem_toArray, List.getElem_cons_zero, List.getElem_cons_succ, List.setIfInBounds_toArray, List.set_cons_zero, List.set_cons_succ]
          refine wpAnyZ_take (i := 5) (v := .int .i64 ynn) [] rfl (by kernel_rfl) (by kernel_rfl) (by kernel_rfl) (by kernel_rfl) (fun _ _ _ h => h) (Or.inl ⟨by kernel_rfl, fun w' hSw => ?_⟩) hHeld ?_
          · have s0 := (hSw.cell (p := ⟨N, 2, none⟩) hNl).trans y2
            have s1 := (hSw.cell (p := ⟨sb, so + i * 2, none⟩) hsl).trans p0
            have s2 := (hSw.cell (p := ⟨sb, so + i * 2 + 1, none⟩) hsl).trans p1
            have s3 : N < w'.heap.size := Nat.lt_of_lt_of_le hNl hSw.size
            have s4 : sb < w'.heap.size := Nat.lt_of_lt_of_le hsl hSw.size
            clear hHeld hSw
            go_simp
          simp only [Act.put, List.getElem_toArray, List.getElem_cons_zero, List.getElem_cons_succ, List.setIfInBounds_toArray, List.set_cons_zero, List.set_cons_succ]
          refine wpAnyZ_one (i := 6) (by kernel_rfl) rfl (fun K' hK => ?_)
          go_simp
          refine (stHolds_any plo phi ynn _).mono ?_
          rintro e W3 ⟨rfl, hW3⟩
          have hb3 : Below W1.heap.size W1 W3 := by rw [hW3]; exact (below_drewN' W1).alloc (Nat.le_refl _) _
          rw [HIN.out]
          clear hW3
          refine hK.out _ _ ?_ (fun hHeld' => ?_)
          · exact hb3
          clear hK K' hHeld
          have hHeld := hHeld'
          clear hHeld'
          try simp only [Act.put, List.getElem_toArray, List.getElem_cons_zero, List.getElem_cons_succ, List.setIfInBounds_toArray, List.set_cons_zero, List.set_cons_succ]
          refine wpAnyZ_take (i := 7) (v := .bool false) [] rfl (by kernel_rfl) (by kernel_rfl) (by kernel_rfl) (by kernel_rfl) (fun _ _ _ h => h) (Or.inl ⟨by kernel_rfl, fun w' hSw => ?_⟩) hHeld ?_
          · have s0 := hSw
            clear hHeld hSw
            go_simp
          simp only [Act.put, List.getElem_toArray, List.getElem_cons_zero, List.getElem_cons_succ, List.setIfInBounds_toArray, List.set_cons_zero, List.set_cons_succ]
          refine wpAnyZ_done (by kernel_rfl) ?_ _
          go_step
          go_step
          have hNG : N ≠ G := by have := HNG2.out; omega
          have HMo3 : Hid (Mod (fun j => j = G) W2 W3) := Lib.hid (HMo1.out.trans (modB hb3))
          have HO3 := Lib.hid (HO1.out.keep hb3 HO1.out.lt)
          have y2 : W3.cell? ⟨N, 2, none⟩ = some (.int .i64 ynn) := (hb3.cell (p := ⟨N, 2, none⟩) hNl).trans y2
          have hNl : N < W3.heap.size := Nat.lt_of_lt_of_le hNl hb3.size
          have gc : W3.cell? ⟨G, i, none⟩ = some (.int .i64 0) := (HO3.out.cell hlt).trans (by simp)
          have gf := HO3.out.frozen i
          have hGl : G < W3.heap.size := HO3.out.lt
          clear y0 p0 p1 hsl hHeld hb3
          go_wp2_with fail
          obtain ⟨W4, hW4⟩ : ∃ W, W = W3.setCell ⟨G, i, none⟩ (.int .i64 ynn) := ⟨_, rfl⟩
          have HO4 : Hid (Own W4 G 3 hln (fun j => .int .i64 (if j < i + 1 then kN x.kids j else 0))) := Lib.hid (by
            rw [hW4]
            refine (HO3.out.set i _).congr (fun j hj => ?_)
            by_cases e : j = i
            · subst e; simp [HYN.out]
            · simp only [if_neg e]
              congr 1
              by_cases h : j < i
              · rw [if_pos h, if_pos (by omega)]
              · rw [if_neg h, if_neg (by omega)])
          have HMo4 : Hid (Mod (fun j => j = G) W2 W4) := Lib.hid (by rw [hW4]; exact HMo3.out.setCell (p := ⟨G, i, none⟩) (.inl rfl) _)
          rw [← hW4]
          clear hW4 y2 hNl gc gf hGl HO3 HMo3 HO1 HMo1
          go_roundg (hln - (i + 1))
          case measure => omega
          case rel => exact ⟨i + 1, by go_num, by omega, by omega, HMo4, HO4⟩
        · have hltz : ¬ (i : Int) < (hln : Int) := by omega
          have HE : Hid (i = hln) := Lib.hid (by omega)
          go_wp2_with fail
          go_ret
          exact ⟨G, rfl, HO.out.congr (fun j hj => by rw [if_pos (by have := HE.out; omega)]), by have := HGG.out; have := HBS2.out; omega, (HB0.out.trans ((HB2.out).mono (by have := HBS2.out; omega))).trans (HB.out.below (by have := HBS2.out; omega) (fun j _ e => by have := HGG.out; have := HBS2.out; omega))⟩
end Go.Proofs.YtpkonifeieepfaaGreat
/-
A map that the call makes, of strings to values of any kind.
-/
namespace Go.Proofs.YtpkonifeieepfaaGreat
open Go.RowKit Go.Maps
set_option linter.unusedVariables false
def rAny (v : Value) : Option (DataW Value × List MemPlace) := some (.held v, [])
section
variable {P : Program} {t k e : TypeId}
/-- Block b is a map that holds f. -/
def ValM (P : Program) (k : TypeId) (w : World) (b n : Nat) (f : Lit → Option Value) : Prop :=
  ∃ D : DataW Value, w.ownsMap P k rAny b n D ∧ ∀ kl, WideAt.IsKeyLit kl → Maps.has D kl = (f kl).isSome ∧ ∀ z, D.atKey kl (.held z) = .held ((f kl).getD z)
theorem ValM.made (w : World) : ValM P k (w.alloc (.map #[] 0)) w.heap.size 0 (fun _ => none) :=
  ⟨.map [], World.ownsMap_made w P k _, fun kl _ => ⟨rfl, fun z => rfl⟩⟩
theorem ValM.lt {w : World} {b n : Nat} {f : Lit → Option Value} (h : ValM P k w b n f) : b < w.heap.size := by
  obtain ⟨D, h1, _⟩ := h
  exact h1.lt
theorem ValM.mod {M : Nat → Prop} {w w' : World} {b n : Nat} {f : Lit → Option Value} (h : ValM P k w b n f) (hm : Mod M w w') (hb : ¬ M b) : ValM P k w' b n f := by
  obtain ⟨D, ⟨es, clock, h1, h2⟩, h3⟩ := h
  have hlt := World.ownsMap.lt ⟨es, clock, h1, h2⟩
  exact ⟨D, ⟨es, clock, (hm.block b hlt hb).trans h1, h2⟩, h3⟩
theorem ValM.keep {w w' : World} {b n : Nat} {f : Lit → Option Value} (h : ValM P k w b n f) (hb : Below w.heap.size w w') : ValM P k w' b n f :=
  h.mod (Mod.of_below hb) (by have := h.lt; omega)
theorem ValM.look {w : World} {b n : Nat} {f : Lit → Option Value} (h : ValM P k w b n f) (K : Keyed P k) (ht : P.underlying t = some (.map k e)) {z : Value} (hz : (zeroValue e).run P w = .ok z w) {key : Value} {kl : Lit} (hkey : keyOf P k key = some kl) (hkl : WideAt.IsKeyLit kl) :
    (Instr.lookup t (.map (some b)) key true).run P w = .ok (.tuple #[(f kl).getD z, .bool (f kl).isSome]) w := by
  obtain ⟨D, h1, h2⟩ := h
  obtain ⟨v, ps, hrun, hv⟩ := h1.look_ok K ht hz (zd := .held z) (zp := []) rfl hkey
  obtain ⟨h3, h4⟩ := h2 kl hkl
  rw [h4] at hv
  injection hv with hv
  injection hv with hv
  injection hv with hv
  rw [hrun, hv, h3]
theorem ValM.look1 {w : World} {b n : Nat} {f : Lit → Option Value} (h : ValM P k w b n f) (K : Keyed P k) (ht : P.underlying t = some (.map k e)) {z : Value} (hz : (zeroValue e).run P w = .ok z w) {key : Value} {kl : Lit} (hkey : keyOf P k key = some kl) (hkl : WideAt.IsKeyLit kl) :
    (Instr.lookup t (.map (some b)) key false).run P w = .ok ((f kl).getD z) w := by
  obtain ⟨D, h1, h2⟩ := h
  obtain ⟨v, ps, hrun, hv⟩ := h1.lookup K ht hz (zd := .held z) (zp := []) rfl hkey
  obtain ⟨h3, h4⟩ := h2 kl hkl
  rw [h4] at hv
  injection hv with hv
  injection hv with hv
  injection hv with hv
  rw [hrun, hv]
noncomputable def putF (f : Lit → Option Value) (kl : Lit) (v : Value) : Lit → Option Value := fun x => @ite _ (x = kl) (Classical.propDecidable _) (some v) (f x)
theorem putF_same {f : Lit → Option Value} {kl : Lit} {v : Value} : putF f kl v kl = some v := by unfold putF; exact if_pos rfl
theorem putF_other {f : Lit → Option Value} {kl x : Lit} {v : Value} (h : x ≠ kl) : putF f kl v x = f x := by unfold putF; exact if_neg h
theorem ValM.put {w : World} {b n : Nat} {f : Lit → Option Value} (h : ValM P k w b n f) (K : Keyed P k) (ht : P.underlying t = some (.map k e)) (hn : n < 1000000) {key v : Value} {kl : Lit} (hkey : keyOf P k key = some kl) (hkl : WideAt.IsKeyLit kl) :
    ∃ w', (Instr.mapUpdate t (.map (some b)) key v).run P w = .ok () w' ∧ Hid (ValM P k w' b (n + 1) (putF f kl v)) ∧ Hid (Mod (fun q => q = b) w w') := by
  obtain ⟨D, h1, h2⟩ := h
  obtain ⟨w', hrun, ho, hg⟩ := h1.update K ht (by unfold maxLen; omega) hkey (d := .held v) (ps := []) rfl
  have hm : IsMap D := h1.isMap
  refine ⟨w', hrun, Lib.hid ⟨_, ho, fun kl' hk' => ?_⟩, Lib.hid ⟨hg.os, hg.tape, hg.output, hg.size, fun q hq hne => hg.block q hq (fun e => hne (by injection e))⟩⟩
  by_cases e1 : kl' = kl
  · subst e1
    rw [putF_same]
    exact ⟨has_put_same hm hkl _, fun z => atKey_put_same hm hkl _ _⟩
  · rw [putF_other e1]
    exact ⟨(has_put_other e1 _).trans (h2 kl' hk').1, fun z => (atKey_put_other e1 _ _).trans ((h2 kl' hk').2 z)⟩
end
end Go.Proofs.YtpkonifeieepfaaGreat
/-
site.Build: the attributes that are numbers.
-/
namespace Go.Proofs.YtpkonifeieepfaaGreat
open Go.RowKit
set_option linter.unusedVariables false
set_option linter.unusedSimpArgs false
/-- What is read of an item. -/
structure RSt where
  con : GCon
  ctr : GCtr
  chg : GChg
  bay : GBay
def rdgL (Bd : Nat) (h : NH) (hb : Nat) (s : RSt) : List Value := [.pointer (some ⟨Bd, 0, none⟩)] ++ encNH h ++ [.map (some hb)] ++ encCon s.con ++ encCtr s.ctr ++ encChg s.chg ++ encBay s.bay
theorem rdgL_len (Bd : Nat) (h : NH) (hb : Nat) (s : RSt) : (rdgL Bd h hb s).length = 32 := rfl
def RdgM (w : World) (Rr Bd : Nat) (h : NH) (hb : Nat) (s : RSt) : Prop := Own w Rr 137 32 (fun i => (rdgL Bd h hb s)[i]?.getD undef)
theorem RdgM.set {w : World} {Rr Bd : Nat} {h : NH} {hb : Nat} {s s' : RSt} (k : RdgM w Rr Bd h hb s) (i : Nat) (v : Value) (hi : i < 32) (e : rdgL Bd h hb s' = (rdgL Bd h hb s).set i v := by rfl) : RdgM (w.setCell ⟨Rr, i, none⟩ v) Rr Bd h hb s' := by
  refine (Own.set k i v).congr (fun j hj => ?_)
  rw [e, List.getElem?_set]
  by_cases h1 : j = i
  · subst h1; simp [rdgL_len, hi]
  · rw [if_neg h1, if_neg (fun e => h1 e.symm)]
theorem RdgM.cell {w : World} {Rr Bd : Nat} {h : NH} {hb : Nat} {s : RSt} (k : RdgM w Rr Bd h hb s) {i : Nat} (hi : i < 32) : w.cell? ⟨Rr, i, none⟩ = some ((rdgL Bd h hb s)[i]?.getD undef) := Own.cell k hi
theorem RdgM.lt {w : World} {Rr Bd : Nat} {h : NH} {hb : Nat} {s : RSt} (k : RdgM w Rr Bd h hb s) : Rr < w.heap.size := Own.lt k
theorem RdgM.frozen {w : World} {Rr Bd : Nat} {h : NH} {hb : Nat} {s : RSt} (k : RdgM w Rr Bd h hb s) (i : Nat) : w.frozen? ⟨Rr, i, none⟩ = false := Own.frozen k i
theorem RdgM.keep {w w' : World} {Rr Bd : Nat} {h : NH} {hb B : Nat} {s : RSt} (k : RdgM w Rr Bd h hb s) (b : Below B w w') (hl : Rr < B) : RdgM w' Rr Bd h hb s := Own.keep k b hl
theorem RdgM.mod {w w' : World} {Rr Bd : Nat} {h : NH} {hb : Nat} {s : RSt} {M : Nat → Prop} (k : RdgM w Rr Bd h hb s) (b : Mod M w w') (hl : ¬ M Rr) : RdgM w' Rr Bd h hb s := Own.mod k b hl
set_option maxRecDepth 100000 in
set_option maxHeartbeats 8000000 in
theorem stC1_ok (a hI : NH) (x : Nd Lf) (lo hi Rr Bd hb Sb : Nat) (s : RSt) (w : World) (hok : okNd okLf w lo hi a x) (hhi : hi ≤ w.heap.size) (HR : Hid (RdgM w Rr Bd hI hb s)) (hc0 : w.cell? ⟨Sb, 0, none⟩ = some (.int .i64 1)) (hc1 : w.cell? ⟨Sb, 1, none⟩ = some (.int .i64 1000)) (hl : x.kids.length = 1) (hk : ∀ y ∈ x.kids, y.kind = 6) (hin : ∀ (k : Nat) (p : Int × Int), ([(1, 1000)] : List (Int × Int))[k]? = some p → inside (kN x.kids k) p.1 p.2 = true) :
    Calls Tryz.prog 112 #[.pointer (some ⟨Rr, 0, none⟩), nhV a, .pointer (some ⟨Sb, 0, none⟩)] w fun e w' => e = .returned (.tuple #[]) ∧ RdgM w' Rr Bd hI hb { s with con := { s.con with limit := kN x.kids 0 } } ∧ Mod (fun j => j = Rr) w w' := by
  obtain ⟨W0, hW0⟩ : ∃ W, W = w.alloc (.cells #[.int .i64 a.kind, .string a.name, .int .i64 a.n, .int .i64 (a.pos : Nat), .slice a.a a.len a.c] 49) := ⟨_, rfl⟩
  obtain ⟨X, hX⟩ : ∃ X, X = w.heap.size := ⟨_, rfl⟩
  have hb0 : Below w.heap.size w W0 := by rw [hW0]; exact (Below.refl _ _).alloc (Nat.le_refl _) _
  have HX0 : Hid (Own W0 X 49 5 (nodeF a.kind a.name a.n a.pos (.slice a.a a.len a.c))) := Lib.hid (by rw [hW0]; exact nodeF_new _ _ _ _ _ _ _ hX.symm)
  have HR0 := Lib.hid (HR.out.keep hb0 HR.out.lt)
  have HOK0 : Hid (okNd okLf W0 lo hi a x) := Lib.hid ((okNd_firm okLf_firm).calm hok (Calm.of (Mod.of_below hb0) (fun j _ h2 h3 => by omega)))
  have HB0 := Lib.hid hb0
  have HHI := Lib.hid hhi
  have HK := Lib.hid hk
  have HIN := Lib.hid hin
  have HL := Lib.hid hl
  have HW0 := Lib.hid hW0
  have HX := Lib.hid hX
  have HRX : Hid (Rr < X) := Lib.hid (by rw [hX]; exact HR.out.lt)
  have c0 : W0.cell? ⟨Sb, 0, none⟩ = some (.int .i64 1) := (hb0.cell (p := ⟨Sb, 0, none⟩) (World.block_lt_of_cell? _ _ hc0)).trans hc0
  have c1 : W0.cell? ⟨Sb, 1, none⟩ = some (.int .i64 1000) := (hb0.cell (p := ⟨Sb, 1, none⟩) (World.block_lt_of_cell? _ _ hc1)).trans hc1
  have hSl : Sb < W0.heap.size := World.block_lt_of_cell? _ _ c0
  rw [show nhV a = .agg #[.int .i64 a.kind, .string a.name, .int .i64 a.n, .int .i64 (a.pos : Nat), .slice a.a a.len a.c] from rfl]
  clear hb0 hW0 hX hok hhi hk hin hl HR
  go_enter Tryz.func112, Tryz.ntmps112
  go_upto_region 1 with (fail)
  rw [← HW0.out, ← HX.out]
  clear HW0
  have x0 : W0.cell? ⟨X, 0, none⟩ = some (.int .i64 a.kind) := HX0.out.cell (i := 0) (by omega)
  have x1 : W0.cell? ⟨X, 1, none⟩ = some (.string a.name) := HX0.out.cell (i := 1) (by omega)
  have x2 : W0.cell? ⟨X, 2, none⟩ = some (.int .i64 a.n) := HX0.out.cell (i := 2) (by omega)
  have x3 : W0.cell? ⟨X, 3, none⟩ = some (.int .i64 (a.pos : Nat)) := HX0.out.cell (i := 3) (by omega)
  have x4 : W0.cell? ⟨X, 4, none⟩ = some (.slice a.a a.len a.c) := HX0.out.cell (i := 4) (by omega)
  have hXl : X < W0.heap.size := HX0.out.lt
  go_wp2_with fail
  obtain ⟨W1, hW1⟩ : ∃ W, W = W0.alloc (.cells #[.int .i64 1, .int .i64 1000] 133) := ⟨_, rfl⟩
  obtain ⟨Q, hQ⟩ : ∃ Q, Q = W0.heap.size := ⟨_, rfl⟩
  rw [← hW1, ← hQ]
  have hb1 : Below W0.heap.size W0 W1 := by rw [hW1]; exact (Below.refl _ _).alloc (Nat.le_refl _) _
  have HSP : Hid (Rd 2 encSp W1 (some ⟨Q, 0, none⟩) [(1, 1000)]) := Lib.hid (by
    rw [hW1, hQ]
    exact (Own.new W0 133 #[.int .i64 1, .int .i64 1000] undef).rd (by show 1 * 2 ≤ 2; omega) encSp_len (fun k y hy j u hu => by
      match k, hy with
      | 0, hy =>
        obtain rfl : _ = y := by simpa using hy
        match j, hu with
        | 0, hu => simp [encSp] at hu; rw [← hu]; rfl
        | 1, hu => simp [encSp] at hu; rw [← hu]; rfl
        | j + 2, hu => simp [encSp] at hu
      | k + 1, hy => simp at hy))
  have HR1 := Lib.hid (HR0.out.keep hb1 HR0.out.lt)
  have HOK1 : Hid (okNd okLf W1 lo hi a x) := Lib.hid ((okNd_firm okLf_firm).calm HOK0.out (Calm.of (Mod.of_below hb1) (fun j _ h2 h3 => by have := HHI.out; have := HB0.out.size; omega)))
  have HMo1 : Hid (Mod (fun j => j = Rr) w W1) := Lib.hid ((modB HB0.out).trans (modB hb1))
  have hsz1 : hi ≤ W1.heap.size := by have := HHI.out; have := HB0.out.size; have := hb1.size; omega
  have HCN := Lib.hid (stNumbers_ok a x lo hi (some ⟨Q, 0, none⟩) 1 1 [(1, 1000)] W1 HOK1.out hsz1 HSP.out HL.out rfl HK.out HIN.out (by omega))
  rw [show nhV a = .agg #[.int .i64 a.kind, .string a.name, .int .i64 a.n, .int .i64 (a.pos : Nat), .slice a.a a.len a.c] from rfl] at HCN
  clear hW1 hQ hb1 hsz1 x0 x1 x2 x3 x4 hXl c0 c1 hSl HX0 HR0 HOK0
  refine HCN.out.mono ?_
  rintro e W2 ⟨g, rfl, hog, hge, hb2⟩
  have HR2 := Lib.hid (HR1.out.keep hb2 HR1.out.lt)
  have HMo2 : Hid (Mod (fun j => j = Rr) w W2) := Lib.hid (HMo1.out.trans (modB hb2))
  have HGR : Hid (g ≠ Rr) := Lib.hid (by have := HR1.out.lt; omega)
  have g0 : W2.cell? ⟨g, 0, none⟩ = some (.int .i64 (kN x.kids 0)) := hog.cell (i := 0) (by omega)
  have hgl : g < W2.heap.size := hog.lt
  have r9 : W2.cell? ⟨Rr, 9, none⟩ = some (.int .i64 s.con.limit) := HR2.out.cell (i := 9) (by omega)
  have f9 := HR2.out.frozen 9
  have hRl : Rr < W2.heap.size := HR2.out.lt
  have hgR : g ≠ Rr := HGR.out
  clear hb2 hge hog HR1 HMo1 HOK1 HSP HCN
  go_wp2_with fail
  go_end0
  exact ⟨rfl, (RdgM.set HR2.out 9 (.int .i64 (kN x.kids 0)) (by decide)), (HMo2.out).setCell (p := ⟨Rr, 9, none⟩) (.inl rfl) _⟩
set_option maxRecDepth 100000 in
set_option maxHeartbeats 8000000 in
theorem stC2_ok (a hI : NH) (x : Nd Lf) (lo hi Rr Bd hb Sb : Nat) (s : RSt) (w : World) (hok : okNd okLf w lo hi a x) (hhi : hi ≤ w.heap.size) (HR : Hid (RdgM w Rr Bd hI hb s)) (hc0 : w.cell? ⟨Sb, 0, none⟩ = some (.int .i64 1)) (hc1 : w.cell? ⟨Sb, 1, none⟩ = some (.int .i64 1000)) (hl : x.kids.length = 1) (hk : ∀ y ∈ x.kids, y.kind = 6) (hin : ∀ (k : Nat) (p : Int × Int), ([(1, 1000)] : List (Int × Int))[k]? = some p → inside (kN x.kids k) p.1 p.2 = true) :
    Calls Tryz.prog 113 #[.pointer (some ⟨Rr, 0, none⟩), nhV a, .pointer (some ⟨Sb, 0, none⟩)] w fun e w' => e = .returned (.tuple #[]) ∧ RdgM w' Rr Bd hI hb { s with con := { s.con with neutral := kN x.kids 0 } } ∧ Mod (fun j => j = Rr) w w' := by
  obtain ⟨W0, hW0⟩ : ∃ W, W = w.alloc (.cells #[.int .i64 a.kind, .string a.name, .int .i64 a.n, .int .i64 (a.pos : Nat), .slice a.a a.len a.c] 49) := ⟨_, rfl⟩
  obtain ⟨X, hX⟩ : ∃ X, X = w.heap.size := ⟨_, rfl⟩
  have hb0 : Below w.heap.size w W0 := by rw [hW0]; exact (Below.refl _ _).alloc (Nat.le_refl _) _
  have HX0 : Hid (Own W0 X 49 5 (nodeF a.kind a.name a.n a.pos (.slice a.a a.len a.c))) := Lib.hid (by rw [hW0]; exact nodeF_new _ _ _ _ _ _ _ hX.symm)
  have HR0 := Lib.hid (HR.out.keep hb0 HR.out.lt)
  have HOK0 : Hid (okNd okLf W0 lo hi a x) := Lib.hid ((okNd_firm okLf_firm).calm hok (Calm.of (Mod.of_below hb0) (fun j _ h2 h3 => by omega)))
  have HB0 := Lib.hid hb0
  have HHI := Lib.hid hhi
  have HK := Lib.hid hk
  have HIN := Lib.hid hin
  have HL := Lib.hid hl
  have HW0 := Lib.hid hW0
  have HX := Lib.hid hX
  have HRX : Hid (Rr < X) := Lib.hid (by rw [hX]; exact HR.out.lt)
  have c0 : W0.cell? ⟨Sb, 0, none⟩ = some (.int .i64 1) := (hb0.cell (p := ⟨Sb, 0, none⟩) (World.block_lt_of_cell? _ _ hc0)).trans hc0
  have c1 : W0.cell? ⟨Sb, 1, none⟩ = some (.int .i64 1000) := (hb0.cell (p := ⟨Sb, 1, none⟩) (World.block_lt_of_cell? _ _ hc1)).trans hc1
  have hSl : Sb < W0.heap.size := World.block_lt_of_cell? _ _ c0
  rw [show nhV a = .agg #[.int .i64 a.kind, .string a.name, .int .i64 a.n, .int .i64 (a.pos : Nat), .slice a.a a.len a.c] from rfl]
  clear hb0 hW0 hX hok hhi hk hin hl HR
  go_enter Tryz.func113, Tryz.ntmps113
  go_upto_region 1 with (fail)
  rw [← HW0.out, ← HX.out]
  clear HW0
  have x0 : W0.cell? ⟨X, 0, none⟩ = some (.int .i64 a.kind) := HX0.out.cell (i := 0) (by omega)
  have x1 : W0.cell? ⟨X, 1, none⟩ = some (.string a.name) := HX0.out.cell (i := 1) (by omega)
  have x2 : W0.cell? ⟨X, 2, none⟩ = some (.int .i64 a.n) := HX0.out.cell (i := 2) (by omega)
  have x3 : W0.cell? ⟨X, 3, none⟩ = some (.int .i64 (a.pos : Nat)) := HX0.out.cell (i := 3) (by omega)
  have x4 : W0.cell? ⟨X, 4, none⟩ = some (.slice a.a a.len a.c) := HX0.out.cell (i := 4) (by omega)
  have hXl : X < W0.heap.size := HX0.out.lt
  go_wp2_with fail
  obtain ⟨W1, hW1⟩ : ∃ W, W = W0.alloc (.cells #[.int .i64 1, .int .i64 1000] 133) := ⟨_, rfl⟩
  obtain ⟨Q, hQ⟩ : ∃ Q, Q = W0.heap.size := ⟨_, rfl⟩
  rw [← hW1, ← hQ]
  have hb1 : Below W0.heap.size W0 W1 := by rw [hW1]; exact (Below.refl _ _).alloc (Nat.le_refl _) _
  have HSP : Hid (Rd 2 encSp W1 (some ⟨Q, 0, none⟩) [(1, 1000)]) := Lib.hid (by
    rw [hW1, hQ]
    exact (Own.new W0 133 #[.int .i64 1, .int .i64 1000] undef).rd (by show 1 * 2 ≤ 2; omega) encSp_len (fun k y hy j u hu => by
      match k, hy with
      | 0, hy =>
        obtain rfl : _ = y := by simpa using hy
        match j, hu with
        | 0, hu => simp [encSp] at hu; rw [← hu]; rfl
        | 1, hu => simp [encSp] at hu; rw [← hu]; rfl
        | j + 2, hu => simp [encSp] at hu
      | k + 1, hy => simp at hy))
  have HR1 := Lib.hid (HR0.out.keep hb1 HR0.out.lt)
  have HOK1 : Hid (okNd okLf W1 lo hi a x) := Lib.hid ((okNd_firm okLf_firm).calm HOK0.out (Calm.of (Mod.of_below hb1) (fun j _ h2 h3 => by have := HHI.out; have := HB0.out.size; omega)))
  have HMo1 : Hid (Mod (fun j => j = Rr) w W1) := Lib.hid ((modB HB0.out).trans (modB hb1))
  have hsz1 : hi ≤ W1.heap.size := by have := HHI.out; have := HB0.out.size; have := hb1.size; omega
  have HCN := Lib.hid (stNumbers_ok a x lo hi (some ⟨Q, 0, none⟩) 1 1 [(1, 1000)] W1 HOK1.out hsz1 HSP.out HL.out rfl HK.out HIN.out (by omega))
  rw [show nhV a = .agg #[.int .i64 a.kind, .string a.name, .int .i64 a.n, .int .i64 (a.pos : Nat), .slice a.a a.len a.c] from rfl] at HCN
  clear hW1 hQ hb1 hsz1 x0 x1 x2 x3 x4 hXl c0 c1 hSl HX0 HR0 HOK0
  refine HCN.out.mono ?_
  rintro e W2 ⟨g, rfl, hog, hge, hb2⟩
  have HR2 := Lib.hid (HR1.out.keep hb2 HR1.out.lt)
  have HMo2 : Hid (Mod (fun j => j = Rr) w W2) := Lib.hid (HMo1.out.trans (modB hb2))
  have HGR : Hid (g ≠ Rr) := Lib.hid (by have := HR1.out.lt; omega)
  have g0 : W2.cell? ⟨g, 0, none⟩ = some (.int .i64 (kN x.kids 0)) := hog.cell (i := 0) (by omega)
  have hgl : g < W2.heap.size := hog.lt
  have r10 : W2.cell? ⟨Rr, 10, none⟩ = some (.int .i64 s.con.neutral) := HR2.out.cell (i := 10) (by omega)
  have f10 := HR2.out.frozen 10
  have hRl : Rr < W2.heap.size := HR2.out.lt
  have hgR : g ≠ Rr := HGR.out
  clear hb2 hge hog HR1 HMo1 HOK1 HSP HCN
  go_wp2_with fail
  go_end0
  exact ⟨rfl, (RdgM.set HR2.out 10 (.int .i64 (kN x.kids 0)) (by decide)), (HMo2.out).setCell (p := ⟨Rr, 10, none⟩) (.inl rfl) _⟩
set_option maxRecDepth 100000 in
set_option maxHeartbeats 8000000 in
theorem stC3_ok (a hI : NH) (x : Nd Lf) (lo hi Rr Bd hb Sb : Nat) (s : RSt) (w : World) (hok : okNd okLf w lo hi a x) (hhi : hi ≤ w.heap.size) (HR : Hid (RdgM w Rr Bd hI hb s)) (hc0 : w.cell? ⟨Sb, 0, none⟩ = some (.int .i64 1)) (hc1 : w.cell? ⟨Sb, 1, none⟩ = some (.int .i64 1000)) (hl : x.kids.length = 2) (hk : ∀ y ∈ x.kids, y.kind = 6) (hin : ∀ (k : Nat) (p : Int × Int), ([(1, 1000), (0, 1000000)] : List (Int × Int))[k]? = some p → inside (kN x.kids k) p.1 p.2 = true) :
    Calls Tryz.prog 114 #[.pointer (some ⟨Rr, 0, none⟩), nhV a, .pointer (some ⟨Sb, 0, none⟩)] w fun e w' => e = .returned (.tuple #[]) ∧ RdgM w' Rr Bd hI hb { s with con := { s.con with rated := kN x.kids 0, heat := kN x.kids 1 } } ∧ Mod (fun j => j = Rr) w w' := by
  obtain ⟨W0, hW0⟩ : ∃ W, W = w.alloc (.cells #[.int .i64 a.kind, .string a.name, .int .i64 a.n, .int .i64 (a.pos : Nat), .slice a.a a.len a.c] 49) := ⟨_, rfl⟩
  obtain ⟨X, hX⟩ : ∃ X, X = w.heap.size := ⟨_, rfl⟩
  have hb0 : Below w.heap.size w W0 := by rw [hW0]; exact (Below.refl _ _).alloc (Nat.le_refl _) _
  have HX0 : Hid (Own W0 X 49 5 (nodeF a.kind a.name a.n a.pos (.slice a.a a.len a.c))) := Lib.hid (by rw [hW0]; exact nodeF_new _ _ _ _ _ _ _ hX.symm)
  have HR0 := Lib.hid (HR.out.keep hb0 HR.out.lt)
  have HOK0 : Hid (okNd okLf W0 lo hi a x) := Lib.hid ((okNd_firm okLf_firm).calm hok (Calm.of (Mod.of_below hb0) (fun j _ h2 h3 => by omega)))
  have HB0 := Lib.hid hb0
  have HHI := Lib.hid hhi
  have HK := Lib.hid hk
  have HIN := Lib.hid hin
  have HL := Lib.hid hl
  have HW0 := Lib.hid hW0
  have HX := Lib.hid hX
  have HRX : Hid (Rr < X) := Lib.hid (by rw [hX]; exact HR.out.lt)
  have c0 : W0.cell? ⟨Sb, 0, none⟩ = some (.int .i64 1) := (hb0.cell (p := ⟨Sb, 0, none⟩) (World.block_lt_of_cell? _ _ hc0)).trans hc0
  have c1 : W0.cell? ⟨Sb, 1, none⟩ = some (.int .i64 1000) := (hb0.cell (p := ⟨Sb, 1, none⟩) (World.block_lt_of_cell? _ _ hc1)).trans hc1
  have hSl : Sb < W0.heap.size := World.block_lt_of_cell? _ _ c0
  rw [show nhV a = .agg #[.int .i64 a.kind, .string a.name, .int .i64 a.n, .int .i64 (a.pos : Nat), .slice a.a a.len a.c] from rfl]
  clear hb0 hW0 hX hok hhi hk hin hl HR
  go_enter Tryz.func114, Tryz.ntmps114
  go_upto_region 1 with (fail)
  rw [← HW0.out, ← HX.out]
  clear HW0
  have x0 : W0.cell? ⟨X, 0, none⟩ = some (.int .i64 a.kind) := HX0.out.cell (i := 0) (by omega)
  have x1 : W0.cell? ⟨X, 1, none⟩ = some (.string a.name) := HX0.out.cell (i := 1) (by omega)
  have x2 : W0.cell? ⟨X, 2, none⟩ = some (.int .i64 a.n) := HX0.out.cell (i := 2) (by omega)
  have x3 : W0.cell? ⟨X, 3, none⟩ = some (.int .i64 (a.pos : Nat)) := HX0.out.cell (i := 3) (by omega)
  have x4 : W0.cell? ⟨X, 4, none⟩ = some (.slice a.a a.len a.c) := HX0.out.cell (i := 4) (by omega)
  have hXl : X < W0.heap.size := HX0.out.lt
  go_wp2_with fail
  obtain ⟨W1, hW1⟩ : ∃ W, W = W0.alloc (.cells #[.int .i64 1, .int .i64 1000, .int .i64 0, .int .i64 1000000] 133) := ⟨_, rfl⟩
  obtain ⟨Q, hQ⟩ : ∃ Q, Q = W0.heap.size := ⟨_, rfl⟩
  rw [← hW1, ← hQ]
  have hb1 : Below W0.heap.size W0 W1 := by rw [hW1]; exact (Below.refl _ _).alloc (Nat.le_refl _) _
  have HSP : Hid (Rd 2 encSp W1 (some ⟨Q, 0, none⟩) [(1, 1000), (0, 1000000)]) := Lib.hid (by
    rw [hW1, hQ]
    exact (Own.new W0 133 #[.int .i64 1, .int .i64 1000, .int .i64 0, .int .i64 1000000] undef).rd (by show 2 * 2 ≤ 4; omega) encSp_len (fun k y hy j u hu => by
      match k, hy with
      | 0, hy =>
        obtain rfl : _ = y := by simpa using hy
        match j, hu with
        | 0, hu => simp [encSp] at hu; rw [← hu]; rfl
        | 1, hu => simp [encSp] at hu; rw [← hu]; rfl
        | j + 2, hu => simp [encSp] at hu
      | 1, hy =>
        obtain rfl : _ = y := by simpa using hy
        match j, hu with
        | 0, hu => simp [encSp] at hu; rw [← hu]; rfl
        | 1, hu => simp [encSp] at hu; rw [← hu]; rfl
        | j + 2, hu => simp [encSp] at hu
      | k + 2, hy => simp at hy))
  have HR1 := Lib.hid (HR0.out.keep hb1 HR0.out.lt)
  have HOK1 : Hid (okNd okLf W1 lo hi a x) := Lib.hid ((okNd_firm okLf_firm).calm HOK0.out (Calm.of (Mod.of_below hb1) (fun j _ h2 h3 => by have := HHI.out; have := HB0.out.size; omega)))
  have HMo1 : Hid (Mod (fun j => j = Rr) w W1) := Lib.hid ((modB HB0.out).trans (modB hb1))
  have hsz1 : hi ≤ W1.heap.size := by have := HHI.out; have := HB0.out.size; have := hb1.size; omega
  have HCN := Lib.hid (stNumbers_ok a x lo hi (some ⟨Q, 0, none⟩) 2 2 [(1, 1000), (0, 1000000)] W1 HOK1.out hsz1 HSP.out HL.out rfl HK.out HIN.out (by omega))
  rw [show nhV a = .agg #[.int .i64 a.kind, .string a.name, .int .i64 a.n, .int .i64 (a.pos : Nat), .slice a.a a.len a.c] from rfl] at HCN
  clear hW1 hQ hb1 hsz1 x0 x1 x2 x3 x4 hXl c0 c1 hSl HX0 HR0 HOK0
  refine HCN.out.mono ?_
  rintro e W2 ⟨g, rfl, hog, hge, hb2⟩
  have HR2 := Lib.hid (HR1.out.keep hb2 HR1.out.lt)
  have HMo2 : Hid (Mod (fun j => j = Rr) w W2) := Lib.hid (HMo1.out.trans (modB hb2))
  have HGR : Hid (g ≠ Rr) := Lib.hid (by have := HR1.out.lt; omega)
  have g0 : W2.cell? ⟨g, 0, none⟩ = some (.int .i64 (kN x.kids 0)) := hog.cell (i := 0) (by omega)
  have g1 : W2.cell? ⟨g, 1, none⟩ = some (.int .i64 (kN x.kids 1)) := hog.cell (i := 1) (by omega)
  have hgl : g < W2.heap.size := hog.lt
  have r11 : W2.cell? ⟨Rr, 11, none⟩ = some (.int .i64 s.con.rated) := HR2.out.cell (i := 11) (by omega)
  have f11 := HR2.out.frozen 11
  have r12 : W2.cell? ⟨Rr, 12, none⟩ = some (.int .i64 s.con.heat) := HR2.out.cell (i := 12) (by omega)
  have f12 := HR2.out.frozen 12
  have hRl : Rr < W2.heap.size := HR2.out.lt
  have hgR : g ≠ Rr := HGR.out
  clear hb2 hge hog HR1 HMo1 HOK1 HSP HCN
  go_upto_region 2 with (fail)
  go_big_region
  go_wp2_with fail
  go_end0
  exact ⟨rfl, Own.drew (RdgM.set (s' := { s with con := { s.con with rated := kN x.kids 0, heat := kN x.kids 1 } }) (RdgM.set (s' := { s with con := { s.con with rated := kN x.kids 0 } }) HR2.out 11 (.int .i64 (kN x.kids 0)) (by decide)) 12 (.int .i64 (kN x.kids 1)) (by decide)), (((HMo2.out).setCell (p := ⟨Rr, 11, none⟩) (.inl rfl) _).setCell (p := ⟨Rr, 12, none⟩) (.inl rfl) _).drew⟩
set_option maxRecDepth 100000 in
set_option maxHeartbeats 8000000 in
theorem stR6_ok (a hI : NH) (x : Nd Lf) (lo hi Rr Bd hb Sb : Nat) (s : RSt) (w : World) (hok : okNd okLf w lo hi a x) (hhi : hi ≤ w.heap.size) (HR : Hid (RdgM w Rr Bd hI hb s)) (hc0 : w.cell? ⟨Sb, 0, none⟩ = some (.int .i64 1)) (hc1 : w.cell? ⟨Sb, 1, none⟩ = some (.int .i64 80)) (hl : x.kids.length = 3) (hk : ∀ y ∈ x.kids, y.kind = 6) (hin : ∀ (k : Nat) (p : Int × Int), ([(1, 80), (1, 80), (1, 80)] : List (Int × Int))[k]? = some p → inside (kN x.kids k) p.1 p.2 = true) :
    Calls Tryz.prog 69 #[.pointer (some ⟨Rr, 0, none⟩), nhV a, .pointer (some ⟨Sb, 0, none⟩)] w fun e w' => e = .returned (.tuple #[]) ∧ RdgM w' Rr Bd hI hb { s with chg := { s.chg with mn := kN x.kids 0, mx := kN x.kids 1, step := kN x.kids 2 } } ∧ Mod (fun j => j = Rr) w w' := by
  obtain ⟨W0, hW0⟩ : ∃ W, W = w.alloc (.cells #[.int .i64 a.kind, .string a.name, .int .i64 a.n, .int .i64 (a.pos : Nat), .slice a.a a.len a.c] 49) := ⟨_, rfl⟩
  obtain ⟨X, hX⟩ : ∃ X, X = w.heap.size := ⟨_, rfl⟩
  have hb0 : Below w.heap.size w W0 := by rw [hW0]; exact (Below.refl _ _).alloc (Nat.le_refl _) _
  have HX0 : Hid (Own W0 X 49 5 (nodeF a.kind a.name a.n a.pos (.slice a.a a.len a.c))) := Lib.hid (by rw [hW0]; exact nodeF_new _ _ _ _ _ _ _ hX.symm)
  have HR0 := Lib.hid (HR.out.keep hb0 HR.out.lt)
  have HOK0 : Hid (okNd okLf W0 lo hi a x) := Lib.hid ((okNd_firm okLf_firm).calm hok (Calm.of (Mod.of_below hb0) (fun j _ h2 h3 => by omega)))
  have HB0 := Lib.hid hb0
  have HHI := Lib.hid hhi
  have HK := Lib.hid hk
  have HIN := Lib.hid hin
  have HL := Lib.hid hl
  have HW0 := Lib.hid hW0
  have HX := Lib.hid hX
  have HRX : Hid (Rr < X) := Lib.hid (by rw [hX]; exact HR.out.lt)
  have c0 : W0.cell? ⟨Sb, 0, none⟩ = some (.int .i64 1) := (hb0.cell (p := ⟨Sb, 0, none⟩) (World.block_lt_of_cell? _ _ hc0)).trans hc0
  have c1 : W0.cell? ⟨Sb, 1, none⟩ = some (.int .i64 80) := (hb0.cell (p := ⟨Sb, 1, none⟩) (World.block_lt_of_cell? _ _ hc1)).trans hc1
  have hSl : Sb < W0.heap.size := World.block_lt_of_cell? _ _ c0
  rw [show nhV a = .agg #[.int .i64 a.kind, .string a.name, .int .i64 a.n, .int .i64 (a.pos : Nat), .slice a.a a.len a.c] from rfl]
  clear hb0 hW0 hX hok hhi hk hin hl HR
  go_enter Tryz.func69, Tryz.ntmps69
  go_upto_region 1 with (fail)
  rw [← HW0.out, ← HX.out]
  clear HW0
  have x0 : W0.cell? ⟨X, 0, none⟩ = some (.int .i64 a.kind) := HX0.out.cell (i := 0) (by omega)
  have x1 : W0.cell? ⟨X, 1, none⟩ = some (.string a.name) := HX0.out.cell (i := 1) (by omega)
  have x2 : W0.cell? ⟨X, 2, none⟩ = some (.int .i64 a.n) := HX0.out.cell (i := 2) (by omega)
  have x3 : W0.cell? ⟨X, 3, none⟩ = some (.int .i64 (a.pos : Nat)) := HX0.out.cell (i := 3) (by omega)
  have x4 : W0.cell? ⟨X, 4, none⟩ = some (.slice a.a a.len a.c) := HX0.out.cell (i := 4) (by omega)
  have hXl : X < W0.heap.size := HX0.out.lt
  go_wp2_with fail
  obtain ⟨W1, hW1⟩ : ∃ W, W = W0.alloc (.cells #[.int .i64 1, .int .i64 80, .int .i64 1, .int .i64 80, .int .i64 1, .int .i64 80] 133) := ⟨_, rfl⟩
  obtain ⟨Q, hQ⟩ : ∃ Q, Q = W0.heap.size := ⟨_, rfl⟩
  rw [← hW1, ← hQ]
  have hb1 : Below W0.heap.size W0 W1 := by rw [hW1]; exact (Below.refl _ _).alloc (Nat.le_refl _) _
  have HSP : Hid (Rd 2 encSp W1 (some ⟨Q, 0, none⟩) [(1, 80), (1, 80), (1, 80)]) := Lib.hid (by
    rw [hW1, hQ]
    exact (Own.new W0 133 #[.int .i64 1, .int .i64 80, .int .i64 1, .int .i64 80, .int .i64 1, .int .i64 80] undef).rd (by show 3 * 2 ≤ 6; omega) encSp_len (fun k y hy j u hu => by
      match k, hy with
      | 0, hy =>
        obtain rfl : _ = y := by simpa using hy
        match j, hu with
        | 0, hu => simp [encSp] at hu; rw [← hu]; rfl
        | 1, hu => simp [encSp] at hu; rw [← hu]; rfl
        | j + 2, hu => simp [encSp] at hu
      | 1, hy =>
        obtain rfl : _ = y := by simpa using hy
        match j, hu with
        | 0, hu => simp [encSp] at hu; rw [← hu]; rfl
        | 1, hu => simp [encSp] at hu; rw [← hu]; rfl
        | j + 2, hu => simp [encSp] at hu
      | 2, hy =>
        obtain rfl : _ = y := by simpa using hy
        match j, hu with
        | 0, hu => simp [encSp] at hu; rw [← hu]; rfl
        | 1, hu => simp [encSp] at hu; rw [← hu]; rfl
        | j + 2, hu => simp [encSp] at hu
      | k + 3, hy => simp at hy))
  have HR1 := Lib.hid (HR0.out.keep hb1 HR0.out.lt)
  have HOK1 : Hid (okNd okLf W1 lo hi a x) := Lib.hid ((okNd_firm okLf_firm).calm HOK0.out (Calm.of (Mod.of_below hb1) (fun j _ h2 h3 => by have := HHI.out; have := HB0.out.size; omega)))
  have HMo1 : Hid (Mod (fun j => j = Rr) w W1) := Lib.hid ((modB HB0.out).trans (modB hb1))
  have hsz1 : hi ≤ W1.heap.size := by have := HHI.out; have := HB0.out.size; have := hb1.size; omega
  have HCN := Lib.hid (stNumbers_ok a x lo hi (some ⟨Q, 0, none⟩) 3 3 [(1, 80), (1, 80), (1, 80)] W1 HOK1.out hsz1 HSP.out HL.out rfl HK.out HIN.out (by omega))
  rw [show nhV a = .agg #[.int .i64 a.kind, .string a.name, .int .i64 a.n, .int .i64 (a.pos : Nat), .slice a.a a.len a.c] from rfl] at HCN
  clear hW1 hQ hb1 hsz1 x0 x1 x2 x3 x4 hXl c0 c1 hSl HX0 HR0 HOK0
  refine HCN.out.mono ?_
  rintro e W2 ⟨g, rfl, hog, hge, hb2⟩
  have HR2 := Lib.hid (HR1.out.keep hb2 HR1.out.lt)
  have HMo2 : Hid (Mod (fun j => j = Rr) w W2) := Lib.hid (HMo1.out.trans (modB hb2))
  have HGR : Hid (g ≠ Rr) := Lib.hid (by have := HR1.out.lt; omega)
  have g0 : W2.cell? ⟨g, 0, none⟩ = some (.int .i64 (kN x.kids 0)) := hog.cell (i := 0) (by omega)
  have g1 : W2.cell? ⟨g, 1, none⟩ = some (.int .i64 (kN x.kids 1)) := hog.cell (i := 1) (by omega)
  have g2 : W2.cell? ⟨g, 2, none⟩ = some (.int .i64 (kN x.kids 2)) := hog.cell (i := 2) (by omega)
  have hgl : g < W2.heap.size := hog.lt
  have r25 : W2.cell? ⟨Rr, 25, none⟩ = some (.int .i64 s.chg.mn) := HR2.out.cell (i := 25) (by omega)
  have f25 := HR2.out.frozen 25
  have r26 : W2.cell? ⟨Rr, 26, none⟩ = some (.int .i64 s.chg.mx) := HR2.out.cell (i := 26) (by omega)
  have f26 := HR2.out.frozen 26
  have r27 : W2.cell? ⟨Rr, 27, none⟩ = some (.int .i64 s.chg.step) := HR2.out.cell (i := 27) (by omega)
  have f27 := HR2.out.frozen 27
  have hRl : Rr < W2.heap.size := HR2.out.lt
  have hgR : g ≠ Rr := HGR.out
  clear hb2 hge hog HR1 HMo1 HOK1 HSP HCN
  go_upto_region 2 with (fail)
  go_big_region
  go_wp2_with fail
  go_end0
  exact ⟨rfl, Own.drew (RdgM.set (s' := { s with chg := { s.chg with mn := kN x.kids 0, mx := kN x.kids 1, step := kN x.kids 2 } }) (RdgM.set (s' := { s with chg := { s.chg with mn := kN x.kids 0, mx := kN x.kids 1 } }) (RdgM.set (s' := { s with chg := { s.chg with mn := kN x.kids 0 } }) HR2.out 25 (.int .i64 (kN x.kids 0)) (by decide)) 26 (.int .i64 (kN x.kids 1)) (by decide)) 27 (.int .i64 (kN x.kids 2)) (by decide)), ((((HMo2.out).setCell (p := ⟨Rr, 25, none⟩) (.inl rfl) _).setCell (p := ⟨Rr, 26, none⟩) (.inl rfl) _).setCell (p := ⟨Rr, 27, none⟩) (.inl rfl) _).drew⟩
set_option maxRecDepth 100000 in
set_option maxHeartbeats 8000000 in
theorem stR7_ok (a hI : NH) (x : Nd Lf) (lo hi Rr Bd hb : Nat) (s : RSt) (w : World) (hok : okNd okLf w lo hi a x) (hhi : hi ≤ w.heap.size) (HR : Hid (RdgM w Rr Bd hI hb s)) (hl : x.kids.length = 1) (hk : ∀ y ∈ x.kids, y.kind = 6) (hin : ∀ (k : Nat) (p : Int × Int), ([(0, 80)] : List (Int × Int))[k]? = some p → inside (kN x.kids k) p.1 p.2 = true) :
    Calls Tryz.prog 70 #[.pointer (some ⟨Rr, 0, none⟩), nhV a] w fun e w' => e = .returned (.tuple #[]) ∧ RdgM w' Rr Bd hI hb { s with chg := { s.chg with fb := kN x.kids 0 } } ∧ Mod (fun j => j = Rr) w w' := by
  obtain ⟨W0, hW0⟩ : ∃ W, W = w.alloc (.cells #[.int .i64 a.kind, .string a.name, .int .i64 a.n, .int .i64 (a.pos : Nat), .slice a.a a.len a.c] 49) := ⟨_, rfl⟩
  obtain ⟨X, hX⟩ : ∃ X, X = w.heap.size := ⟨_, rfl⟩
  have hb0 : Below w.heap.size w W0 := by rw [hW0]; exact (Below.refl _ _).alloc (Nat.le_refl _) _
  have HX0 : Hid (Own W0 X 49 5 (nodeF a.kind a.name a.n a.pos (.slice a.a a.len a.c))) := Lib.hid (by rw [hW0]; exact nodeF_new _ _ _ _ _ _ _ hX.symm)
  have HR0 := Lib.hid (HR.out.keep hb0 HR.out.lt)
  have HOK0 : Hid (okNd okLf W0 lo hi a x) := Lib.hid ((okNd_firm okLf_firm).calm hok (Calm.of (Mod.of_below hb0) (fun j _ h2 h3 => by omega)))
  have HB0 := Lib.hid hb0
  have HHI := Lib.hid hhi
  have HK := Lib.hid hk
  have HIN := Lib.hid hin
  have HL := Lib.hid hl
  have HW0 := Lib.hid hW0
  have HX := Lib.hid hX
  have HRX : Hid (Rr < X) := Lib.hid (by rw [hX]; exact HR.out.lt)
  rw [show nhV a = .agg #[.int .i64 a.kind, .string a.name, .int .i64 a.n, .int .i64 (a.pos : Nat), .slice a.a a.len a.c] from rfl]
  clear hb0 hW0 hX hok hhi hk hin hl HR
  go_enter Tryz.func70, Tryz.ntmps70
  go_upto_region 1 with (fail)
  rw [← HW0.out, ← HX.out]
  clear HW0
  have x0 : W0.cell? ⟨X, 0, none⟩ = some (.int .i64 a.kind) := HX0.out.cell (i := 0) (by omega)
  have x1 : W0.cell? ⟨X, 1, none⟩ = some (.string a.name) := HX0.out.cell (i := 1) (by omega)
  have x2 : W0.cell? ⟨X, 2, none⟩ = some (.int .i64 a.n) := HX0.out.cell (i := 2) (by omega)
  have x3 : W0.cell? ⟨X, 3, none⟩ = some (.int .i64 (a.pos : Nat)) := HX0.out.cell (i := 3) (by omega)
  have x4 : W0.cell? ⟨X, 4, none⟩ = some (.slice a.a a.len a.c) := HX0.out.cell (i := 4) (by omega)
  have hXl : X < W0.heap.size := HX0.out.lt
  go_wp2_with fail
  obtain ⟨W1, hW1⟩ : ∃ W, W = W0.alloc (.cells #[.int .i64 0, .int .i64 80] 133) := ⟨_, rfl⟩
  obtain ⟨Q, hQ⟩ : ∃ Q, Q = W0.heap.size := ⟨_, rfl⟩
  rw [← hW1, ← hQ]
  have hb1 : Below W0.heap.size W0 W1 := by rw [hW1]; exact (Below.refl _ _).alloc (Nat.le_refl _) _
  have HSP : Hid (Rd 2 encSp W1 (some ⟨Q, 0, none⟩) [(0, 80)]) := Lib.hid (by
    rw [hW1, hQ]
    exact (Own.new W0 133 #[.int .i64 0, .int .i64 80] undef).rd (by show 1 * 2 ≤ 2; omega) encSp_len (fun k y hy j u hu => by
      match k, hy with
      | 0, hy =>
        obtain rfl : _ = y := by simpa using hy
        match j, hu with
        | 0, hu => simp [encSp] at hu; rw [← hu]; rfl
        | 1, hu => simp [encSp] at hu; rw [← hu]; rfl
        | j + 2, hu => simp [encSp] at hu
      | k + 1, hy => simp at hy))
  have HR1 := Lib.hid (HR0.out.keep hb1 HR0.out.lt)
  have HOK1 : Hid (okNd okLf W1 lo hi a x) := Lib.hid ((okNd_firm okLf_firm).calm HOK0.out (Calm.of (Mod.of_below hb1) (fun j _ h2 h3 => by have := HHI.out; have := HB0.out.size; omega)))
  have HMo1 : Hid (Mod (fun j => j = Rr) w W1) := Lib.hid ((modB HB0.out).trans (modB hb1))
  have hsz1 : hi ≤ W1.heap.size := by have := HHI.out; have := HB0.out.size; have := hb1.size; omega
  have HCN := Lib.hid (stNumbers_ok a x lo hi (some ⟨Q, 0, none⟩) 1 1 [(0, 80)] W1 HOK1.out hsz1 HSP.out HL.out rfl HK.out HIN.out (by omega))
  rw [show nhV a = .agg #[.int .i64 a.kind, .string a.name, .int .i64 a.n, .int .i64 (a.pos : Nat), .slice a.a a.len a.c] from rfl] at HCN
  clear hW1 hQ hb1 hsz1 x0 x1 x2 x3 x4 hXl  HX0 HR0 HOK0
  refine HCN.out.mono ?_
  rintro e W2 ⟨g, rfl, hog, hge, hb2⟩
  have HR2 := Lib.hid (HR1.out.keep hb2 HR1.out.lt)
  have HMo2 : Hid (Mod (fun j => j = Rr) w W2) := Lib.hid (HMo1.out.trans (modB hb2))
  have HGR : Hid (g ≠ Rr) := Lib.hid (by have := HR1.out.lt; omega)
  have g0 : W2.cell? ⟨g, 0, none⟩ = some (.int .i64 (kN x.kids 0)) := hog.cell (i := 0) (by omega)
  have hgl : g < W2.heap.size := hog.lt
  have r28 : W2.cell? ⟨Rr, 28, none⟩ = some (.int .i64 s.chg.fb) := HR2.out.cell (i := 28) (by omega)
  have f28 := HR2.out.frozen 28
  have hRl : Rr < W2.heap.size := HR2.out.lt
  have hgR : g ≠ Rr := HGR.out
  clear hb2 hge hog HR1 HMo1 HOK1 HSP HCN
  go_wp2_with fail
  go_end0
  exact ⟨rfl, (RdgM.set HR2.out 28 (.int .i64 (kN x.kids 0)) (by decide)), (HMo2.out).setCell (p := ⟨Rr, 28, none⟩) (.inl rfl) _⟩
end Go.Proofs.YtpkonifeieepfaaGreat
/-
site.Build: of, name, phases, and the attributes that are names.
-/
namespace Go.Proofs.YtpkonifeieepfaaGreat
open Go.RowKit
set_option linter.unusedVariables false
set_option linter.unusedSimpArgs false
def strL (s : ByteArray) : Lit := .string s.data.toList
set_option maxRecDepth 100000 in
set_option maxHeartbeats 8000000 in
theorem stOf_any (A : Option Addr) (n c : Nat) (opt : Value) (fv : Value) (ks : List Int) (k : Int) (w : World) (hr : Rd 1 encI w A ks) (hn : ks.length = n) (hn2 : n ≤ 100) (ho : ∃ b, opt = .bool b) (hf : ∃ F b cs, fv = .func (.func F) b cs) :
    Calls Tryz.prog 117 #[.agg #[.slice A n c, opt, fv], .int .i64 k] w fun e w' => e = .returned (.bool (ks.contains k)) ∧ Below w.heap.size w w' := by
  obtain ⟨q, hq⟩ : ∃ q, q = ks.contains k := ⟨_, rfl⟩
  rw [← hq]
  have HQ := Lib.hid hq
  clear hq
  obtain ⟨ob, rfl⟩ := ho
  obtain ⟨F, fb, fc, rfl⟩ := hf
  obtain ⟨W0, hW0⟩ : ∃ W, W = w.alloc (.cells #[.slice A n c, .bool ob, .func (.func F) fb fc] 140) := ⟨_, rfl⟩
  obtain ⟨X, hX⟩ : ∃ X, X = w.heap.size := ⟨_, rfl⟩
  have hb0 : Below w.heap.size w W0 := by rw [hW0]; exact (Below.refl _ _).alloc (Nat.le_refl _) _
  have x0 : W0.cell? ⟨X, 0, none⟩ = some (.slice A n c) := by rw [hW0, hX]; go_simp
  have hXl : X < W0.heap.size := by rw [hW0, hX]; simp
  have HB0 := Lib.hid hb0
  have HW0 := Lib.hid hW0
  have HX := Lib.hid hX
  have HR := Lib.hid (hr.keep hb0)
  have HN := Lib.hid hn
  clear hb0 hW0 hX hr hn
  go_enter Tryz.func117, Tryz.ntmps117
  go_upto_region 1 with (fail)
  rw [← HW0.out, ← HX.out]
  clear HW0
  go_wp2_with fail
  go_loopg [10] n (fun g1 v10 wr => ∃ (i : Nat), v10 = .int .i64 i ∧ i ≤ n ∧ n - i ≤ g1 ∧ Hid (wr = W0) ∧ Hid (∀ j, j < i → (ks[j]?.getD 0) ≠ k))
  case atStart => exact ⟨0, by go_num, by omega, by omega, Lib.hid rfl, Lib.hid (fun j hj => by omega)⟩
  case round =>
    obtain ⟨i, rfl, hi', hg1, HWR, HNO⟩ := hrel
    by_cases hlt : i < n
    · have hltz : (i : Int) < (n : Int) := by omega
      obtain ⟨b, off, hA, hbl, hc⟩ := (by rw [HWR.out]; exact HR.out : Rd 1 encI wr A ks).int (k := i) (by rw [HN.out]; exact hlt)
      obtain ⟨z, hz⟩ : ∃ z, z = ks[i]?.getD 0 := ⟨_, rfl⟩
      rw [← hz] at hc
      have HZ := Lib.hid hz
      have HA := Lib.hid hA
      subst hA
      clear hz
      by_cases he : z = k
      · have HE : Hid (q = true) := Lib.hid (by
          rw [HQ.out, List.contains_iff_mem, ← he, HZ.out]
          have h1 : i < ks.length := by rw [HN.out]; exact hlt
          rw [List.getElem?_eq_getElem h1]
          exact List.getElem_mem h1)
        have hez : (z == k) = true := by simpa using he
        clear he
        go_wp2_with fail
        go_ret
        exact ⟨ret_bool HE.out.symm, by rw [HWR.out]; exact HB0.out⟩
      · have hez : (z == k) = false := by simpa using he
        have HN2 : Hid (∀ j, j < i + 1 → (ks[j]?.getD 0) ≠ k) := Lib.hid (fun j hj => by
          by_cases h : j = i
          · subst h; rw [← HZ.out]; exact he
          · exact HNO.out j (by omega))
        clear he
        go_wp2_with fail
        go_roundg (n - (i + 1))
        case measure => omega
        case rel => exact ⟨i + 1, by go_num, by omega, by omega, HWR, HN2⟩
    · have hltz : ¬ (i : Int) < (n : Int) := by omega
      have HE : Hid (q = false) := Lib.hid (by
        rw [HQ.out, Bool.eq_false_iff]
        intro h
        rw [List.contains_iff_mem] at h
        obtain ⟨j, hj, he⟩ := List.getElem_of_mem h
        refine HNO.out j (by have := HN.out; omega) ?_
        rw [List.getElem?_eq_getElem hj]
        exact he)
      go_wp2_with fail
      go_ret
      exact ⟨ret_bool HE.out.symm, by rw [HWR.out]; exact HB0.out⟩
set_option maxRecDepth 100000 in
set_option maxHeartbeats 8000000 in
theorem stName_ok (a hI : NH) (x : Nd Lf) (lo hi Rr Bd hb Tb nt : Nat) (s : RSt) (A : Option Addr) (n c : Nat) (ks : List Int) (nm : ByteArray) (kd ix : Int) (f : Lit → Option Value) (w : World) (hok : okNd okLf w lo hi a x) (hhi : hi ≤ w.heap.size) (HR : Hid (RdgM w Rr Bd hI hb s)) (hB : w.cell? ⟨Bd, 7, none⟩ = some (.map (some Tb))) (HV : Hid (ValM Tryz.prog 9 w Tb nt f)) (hf : f (strL nm) = some (.agg #[.int .i64 kd, .int .i64 ix])) (hx : ∃ y, x.kids = [y] ∧ y.kind = 5 ∧ y.name = nm) (hnm : nm.size ≤ 8000) (hrk : Rd 1 encI w A ks) (hn : ks.length = n) (hn2 : n ≤ 100) (hmem : ks.contains kd = true) :
    Calls Tryz.prog 61 #[.pointer (some ⟨Rr, 0, none⟩), nhV a, .slice A n c] w fun e w' => e = .returned (.int .i64 ix) ∧ Below w.heap.size w w' := by
  obtain ⟨y, hxk, hyk, hyn⟩ := hx
  obtain ⟨e1, e2, e3, e4, hs, g⟩ := hok
  obtain ⟨hl0, hr0⟩ := g.rd
  have hal : a.len = 1 := by rw [← hl0, g.len, hxk]; rfl
  obtain ⟨W0, hW0⟩ : ∃ W, W = w.alloc (.cells #[.int .i64 a.kind, .string a.name, .int .i64 a.n, .int .i64 (a.pos : Nat), .slice a.a a.len a.c] 49) := ⟨_, rfl⟩
  obtain ⟨X, hX⟩ : ∃ X, X = w.heap.size := ⟨_, rfl⟩
  have hb0 : Below w.heap.size w W0 := by rw [hW0]; exact (Below.refl _ _).alloc (Nat.le_refl _) _
  have HX0 : Hid (Own W0 X 49 5 (nodeF a.kind a.name a.n a.pos (.slice a.a a.len a.c))) := Lib.hid (by rw [hW0]; exact nodeF_new _ _ _ _ _ _ _ hX.symm)
  have HB0 := Lib.hid hb0
  have HW0 := Lib.hid hW0
  have HX := Lib.hid hX
  obtain ⟨kb, ko, ky, hka, hkl0, hkx, q0, q1, q2, q3, q4⟩ := node_at (hr0.keep hb0) (k := 0) (by rw [hl0, hal]; omega)
  obtain ⟨_, _, _, _, _, o1, o2, o3, _⟩ := g.mem 0 ky y hkx (by rw [hxk]; rfl)
  have k0 : W0.cell? ⟨kb, ko, none⟩ = some (.int .i64 5) := by rw [← hyk, ← o1]; simpa using q0
  have k1 : W0.cell? ⟨kb, ko + 1, none⟩ = some (.string nm) := by rw [← hyn, ← o2]; simpa using q1
  have hkl : kb < W0.heap.size := hkl0
  have HR0 := Lib.hid (HR.out.keep hb0 HR.out.lt)
  have r0 : W0.cell? ⟨Rr, 0, none⟩ = some (.pointer (some ⟨Bd, 0, none⟩)) := HR0.out.cell (i := 0) (by omega)
  have hRl : Rr < W0.heap.size := HR0.out.lt
  have b7 : W0.cell? ⟨Bd, 7, none⟩ = some (.map (some Tb)) := (hb0.cell (p := ⟨Bd, 7, none⟩) (World.block_lt_of_cell? _ _ hB)).trans hB
  have hBl : Bd < W0.heap.size := World.block_lt_of_cell? _ _ b7
  have HV0 := Lib.hid (HV.out.keep hb0)
  have HRK := Lib.hid (hrk.keep hb0)
  have HN := Lib.hid hn
  have HMEM := Lib.hid hmem
  have HLK : Hid (∀ W, Below W0.heap.size W0 W → (Instr.lookup 91 (.map (some Tb)) (.string nm) true).run Tryz.prog W = .ok (.tuple #[.agg #[.int .i64 kd, .int .i64 ix], .bool true]) W) := Lib.hid (fun W hbW => by
    have h := (HV0.out.keep hbW).look (Go.Maps.string_keyed Tryz.underlying9) Tryz.underlying91 (z := .agg #[.int .i64 0, .int .i64 0]) (by go_simp) (key := .string nm) (kl := strL nm) (WideMaps.keyOf_string_mk Tryz.underlying9 (by unfold maxLen; omega)) (by trivial)
    rw [hf] at h
    exact h)
  rw [show nhV a = .agg #[.int .i64 a.kind, .string a.name, .int .i64 a.n, .int .i64 (a.pos : Nat), .slice a.a a.len a.c] from rfl]
  rw [hal] at HX0 HW0 ⊢
  rw [hka] at HX0 HW0 ⊢
  clear hb0 hW0 hX hhi HR hxk hyk hyn e1 e2 e3 e4 g hl0 hr0 q0 q1 q2 q3 q4 o1 o2 o3 hkx hB HV hf hrk hn hmem HV0
  go_enter Tryz.func61, Tryz.ntmps61
  go_upto_region 1 with (fail)
  rw [← HW0.out, ← HX.out]
  clear HW0
  have x0 : W0.cell? ⟨X, 0, none⟩ = some (.int .i64 a.kind) := HX0.out.cell (i := 0) (by omega)
  have x1 : W0.cell? ⟨X, 1, none⟩ = some (.string a.name) := HX0.out.cell (i := 1) (by omega)
  have x2 : W0.cell? ⟨X, 2, none⟩ = some (.int .i64 a.n) := HX0.out.cell (i := 2) (by omega)
  have x3 : W0.cell? ⟨X, 3, none⟩ = some (.int .i64 (a.pos : Nat)) := HX0.out.cell (i := 3) (by omega)
  have x4 : W0.cell? ⟨X, 4, none⟩ = some (.slice (some ⟨kb, ko, none⟩) 1 a.c) := HX0.out.cell (i := 4) (by omega)
  have hXl : X < W0.heap.size := HX0.out.lt
  go_upto_region 3 with (fail)
  refine region_z (S := fun w' => Below W0.heap.size W0 w') [] (by kernel_rfl) (below_drewN' W0) (fun hHeld => ?_)
  obtain ⟨wd, hwd⟩ : ∃ wd, wd = W0.drew := ⟨_, rfl⟩
  have HWD : Hid (W0.heap.size = wd.heap.size) := Lib.hid (by rw [hwd]; rfl)
  rw [← hwd] at hHeld ⊢
  clear hwd
  refine wpAnyZ_take (i := 0) (v := .pointer (some ⟨Rr, 0, none⟩)) [] rfl (by kernel_rfl) (by kernel_rfl) (by kernel_rfl) (by kernel_rfl) (fun _ _ _ h => h) (Or.inl ⟨by kernel_rfl, fun w' hSw => ?_⟩) hHeld ?_
  · have hS : Below W0.heap.size W0 w' := hSw
    have s0 := (hS.cell (p := ⟨Rr, 0, none⟩) hRl).trans r0
    have s1 := (hS.cell (p := ⟨Bd, 7, none⟩) hBl).trans b7
    have s2 := (hS.cell (p := ⟨X, 4, none⟩) hXl).trans x4
    have s3 := (hS.cell (p := ⟨kb, ko + 1, none⟩) hkl).trans k1
    have s4 : Rr < w'.heap.size := Nat.lt_of_lt_of_le hRl hS.size
    have s5 : Bd < w'.heap.size := Nat.lt_of_lt_of_le hBl hS.size
    have s6 : X < w'.heap.size := Nat.lt_of_lt_of_le hXl hS.size
    have s7 : kb < w'.heap.size := Nat.lt_of_lt_of_le hkl hS.size
    have s8 : (Instr.lookup 91 (.map (some Tb)) (.string nm) true).run Tryz.prog w' = .ok (.tuple #[.agg #[.int .i64 kd, .int .i64 ix], .bool true]) w' := HLK.out w' hS
    clear hS
    clear hHeld hSw
    go_simp
  simp only [Act.put, List.getElem_toArray, List.getElem_cons_zero, List.getElem_cons_succ, List.setIfInBounds_toArray, List.set_cons_zero, List.set_cons_succ]
  refine wpAnyZ_take (i := 1) (v := .pointer (some ⟨Rr, 0, none⟩)) [] rfl (by kernel_rfl) (by kernel_rfl) (by kernel_rfl) (by kernel_rfl) (fun _ _ _ h => h) (Or.inl ⟨by kernel_rfl, fun w' hSw => ?_⟩) hHeld ?_
  · have hS : Below W0.heap.size W0 w' := hSw
    have s0 := (hS.cell (p := ⟨Rr, 0, none⟩) hRl).trans r0
    have s1 := (hS.cell (p := ⟨Bd, 7, none⟩) hBl).trans b7
    have s2 := (hS.cell (p := ⟨X, 4, none⟩) hXl).trans x4
    have s3 := (hS.cell (p := ⟨kb, ko + 1, none⟩) hkl).trans k1
    have s4 : Rr < w'.heap.size := Nat.lt_of_lt_of_le hRl hS.size
    have s5 : Bd < w'.heap.size := Nat.lt_of_lt_of_le hBl hS.size
    have s6 : X < w'.heap.size := Nat.lt_of_lt_of_le hXl hS.size
    have s7 : kb < w'.heap.size := Nat.lt_of_lt_of_le hkl hS.size
    have s8 : (Instr.lookup 91 (.map (some Tb)) (.string nm) true).run Tryz.prog w' = .ok (.tuple #[.agg #[.int .i64 kd, .int .i64 ix], .bool true]) w' := HLK.out w' hS
    clear hS
    clear hHeld hSw
    go_simp
  simp only [Act.put, List.getElem_toArray, List.getElem_cons_zero, List.getElem_cons_succ, List.setIfInBounds_toArray, List.set_cons_zero, List.set_cons_succ]
  refine wpAnyZ_take (i := 2) (v := .pointer (some ⟨Rr, 0, none⟩)) [] rfl (by kernel_rfl) (by kernel_rfl) (by kernel_rfl) (by kernel_rfl) (fun _ _ _ h => h) (Or.inl ⟨by kernel_rfl, fun w' hSw => ?_⟩) hHeld ?_
  · have hS : Below W0.heap.size W0 w' := hSw
    have s0 := (hS.cell (p := ⟨Rr, 0, none⟩) hRl).trans r0
    have s1 := (hS.cell (p := ⟨Bd, 7, none⟩) hBl).trans b7
    have s2 := (hS.cell (p := ⟨X, 4, none⟩) hXl).trans x4
    have s3 := (hS.cell (p := ⟨kb, ko + 1, none⟩) hkl).trans k1
    have s4 : Rr < w'.heap.size := Nat.lt_of_lt_of_le hRl hS.size
    have s5 : Bd < w'.heap.size := Nat.lt_of_lt_of_le hBl hS.size
    have s6 : X < w'.heap.size := Nat.lt_of_lt_of_le hXl hS.size
    have s7 : kb < w'.heap.size := Nat.lt_of_lt_of_le hkl hS.size
    have s8 : (Instr.lookup 91 (.map (some Tb)) (.string nm) true).run Tryz.prog w' = .ok (.tuple #[.agg #[.int .i64 kd, .int .i64 ix], .bool true]) w' := HLK.out w' hS
    clear hS
    clear hHeld hSw
    go_simp
  simp only [Act.put, List.getElem_toArray, List.getElem_cons_zero, List.getElem_cons_succ, List.setIfInBounds_toArray, List.set_cons_zero, List.set_cons_succ]
  refine wpAnyZ_take (i := 3) (v := .pointer (some ⟨Bd, 0, none⟩)) [] rfl (by kernel_rfl) (by kernel_rfl) (by kernel_rfl) (by kernel_rfl) (fun _ _ _ h => h) (Or.inl ⟨by kernel_rfl, fun w' hSw => ?_⟩) hHeld ?_
  · have hS : Below W0.heap.size W0 w' := hSw
    have s0 := (hS.cell (p := ⟨Rr, 0, none⟩) hRl).trans r0
    have s1 := (hS.cell (p := ⟨Bd, 7, none⟩) hBl).trans b7
    have s2 := (hS.cell (p := ⟨X, 4, none⟩) hXl).trans x4
    have s3 := (hS.cell (p := ⟨kb, ko + 1, none⟩) hkl).trans k1
    have s4 : Rr < w'.heap.size := Nat.lt_of_lt_of_le hRl hS.size
    have s5 : Bd < w'.heap.size := Nat.lt_of_lt_of_le hBl hS.size
    have s6 : X < w'.heap.size := Nat.lt_of_lt_of_le hXl hS.size
    have s7 : kb < w'.heap.size := Nat.lt_of_lt_of_le hkl hS.size
    have s8 : (Instr.lookup 91 (.map (some Tb)) (.string nm) true).run Tryz.prog w' = .ok (.tuple #[.agg #[.int .i64 kd, .int .i64 ix], .bool true]) w' := HLK.out w' hS
    clear hS
    clear hHeld hSw
    go_simp
  simp only [Act.put, List.getElem_toArray, List.getElem_cons_zero, List.getElem_cons_succ, List.setIfInBounds_toArray, List.set_cons_zero, List.set_cons_succ]
  refine wpAnyZ_take (i := 4) (v := .pointer (some ⟨Bd, 0, none⟩)) [] rfl (by kernel_rfl) (by kernel_rfl) (by kernel_rfl) (by kernel_rfl) (fun _ _ _ h => h) (Or.inl ⟨by kernel_rfl, fun w' hSw => ?_⟩) hHeld ?_
  · have hS : Below W0.heap.size W0 w' := hSw
    have s0 := (hS.cell (p := ⟨Rr, 0, none⟩) hRl).trans r0
    have s1 := (hS.cell (p := ⟨Bd, 7, none⟩) hBl).trans b7
    have s2 := (hS.cell (p := ⟨X, 4, none⟩) hXl).trans x4
    have s3 := (hS.cell (p := ⟨kb, ko + 1, none⟩) hkl).trans k1
    have s4 : Rr < w'.heap.size := Nat.lt_of_lt_of_le hRl hS.size
    have s5 : Bd < w'.heap.size := Nat.lt_of_lt_of_le hBl hS.size
    have s6 : X < w'.heap.size := Nat.lt_of_lt_of_le hXl hS.size
    have s7 : kb < w'.heap.size := Nat.lt_of_lt_of_le hkl hS.size
    have s8 : (Instr.lookup 91 (.map (some Tb)) (.string nm) true).run Tryz.prog w' = .ok (.tuple #[.agg #[.int .i64 kd, .int .i64 ix], .bool true]) w' := HLK.out w' hS
    clear hS
    clear hHeld hSw
    go_simp
  simp only [Act.put, List.getElem_toArray, List.getElem_cons_zero, List.getElem_cons_succ, List.setIfInBounds_toArray, List.set_cons_zero, List.set_cons_succ]
  refine wpAnyZ_take (i := 5) (v := .pointer (some ⟨Bd, 7, none⟩)) [] rfl (by kernel_rfl) (by kernel_rfl) (by kernel_rfl) (by kernel_rfl) (fun _ _ _ h => h) (Or.inl ⟨by kernel_rfl, fun w' hSw => ?_⟩) hHeld ?_
  · have hS : Below W0.heap.size W0 w' := hSw
    have s0 := (hS.cell (p := ⟨Rr, 0, none⟩) hRl).trans r0
    have s1 := (hS.cell (p := ⟨Bd, 7, none⟩) hBl).trans b7
    have s2 := (hS.cell (p := ⟨X, 4, none⟩) hXl).trans x4
    have s3 := (hS.cell (p := ⟨kb, ko + 1, none⟩) hkl).trans k1
    have s4 : Rr < w'.heap.size := Nat.lt_of_lt_of_le hRl hS.size
    have s5 : Bd < w'.heap.size := Nat.lt_of_lt_of_le hBl hS.size
    have s6 : X < w'.heap.size := Nat.lt_of_lt_of_le hXl hS.size
    have s7 : kb < w'.heap.size := Nat.lt_of_lt_of_le hkl hS.size
    have s8 : (Instr.lookup 91 (.map (some Tb)) (.string nm) true).run Tryz.prog w' = .ok (.tuple #[.agg #[.int .i64 kd, .int .i64 ix], .bool true]) w' := HLK.out w' hS
    clear hS
    clear hHeld hSw
    go_simp
  simp only [Act.put, List.getElem_toArray, List.getElem_cons_zero, List.getElem_cons_succ, List.setIfInBounds_toArray, List.set_cons_zero, List.set_cons_succ]
  refine wpAnyZ_take (i := 6) (v := .map (some Tb)) [] rfl (by kernel_rfl) (by kernel_rfl) (by kernel_rfl) (by kernel_rfl) (fun _ _ _ h => h) (Or.inl ⟨by kernel_rfl, fun w' hSw => ?_⟩) hHeld ?_
  · have hS : Below W0.heap.size W0 w' := hSw
    have s0 := (hS.cell (p := ⟨Rr, 0, none⟩) hRl).trans r0
    have s1 := (hS.cell (p := ⟨Bd, 7, none⟩) hBl).trans b7
    have s2 := (hS.cell (p := ⟨X, 4, none⟩) hXl).trans x4
    have s3 := (hS.cell (p := ⟨kb, ko + 1, none⟩) hkl).trans k1
    have s4 : Rr < w'.heap.size := Nat.lt_of_lt_of_le hRl hS.size
    have s5 : Bd < w'.heap.size := Nat.lt_of_lt_of_le hBl hS.size
    have s6 : X < w'.heap.size := Nat.lt_of_lt_of_le hXl hS.size
    have s7 : kb < w'.heap.size := Nat.lt_of_lt_of_le hkl hS.size
    have s8 : (Instr.lookup 91 (.map (some Tb)) (.string nm) true).run Tryz.prog w' = .ok (.tuple #[.agg #[.int .i64 kd, .int .i64 ix], .bool true]) w' := HLK.out w' hS
    clear hS
    clear hHeld hSw
    go_simp
  simp only [Act.put, List.getElem_toArray, List.getElem_cons_zero, List.getElem_cons_succ, List.setIfInBounds_toArray, List.set_cons_zero, List.set_cons_succ]
  refine wpAnyZ_take (i := 7) (v := .pointer (some ⟨X, 4, none⟩)) [] rfl (by kernel_rfl) (by kernel_rfl) (by kernel_rfl) (by kernel_rfl) (fun _ _ _ h => h) (Or.inl ⟨by kernel_rfl, fun w' hSw => ?_⟩) hHeld ?_
  · have hS : Below W0.heap.size W0 w' := hSw
    have s0 := (hS.cell (p := ⟨Rr, 0, none⟩) hRl).trans r0
    have s1 := (hS.cell (p := ⟨Bd, 7, none⟩) hBl).trans b7
    have s2 := (hS.cell (p := ⟨X, 4, none⟩) hXl).trans x4
    have s3 := (hS.cell (p := ⟨kb, ko + 1, none⟩) hkl).trans k1
    have s4 : Rr < w'.heap.size := Nat.lt_of_lt_of_le hRl hS.size
    have s5 : Bd < w'.heap.size := Nat.lt_of_lt_of_le hBl hS.size
    have s6 : X < w'.heap.size := Nat.lt_of_lt_of_le hXl hS.size
    have s7 : kb < w'.heap.size := Nat.lt_of_lt_of_le hkl hS.size
    have s8 : (Instr.lookup 91 (.map (some Tb)) (.string nm) true).run Tryz.prog w' = .ok (.tuple #[.agg #[.int .i64 kd, .int .i64 ix], .bool true]) w' := HLK.out w' hS
    clear hS
    clear hHeld hSw
    go_simp
  simp only [Act.put, List.getElem_toArray, List.getElem_cons_zero, List.getElem_cons_succ, List.setIfInBounds_toArray, List.set_cons_zero, List.set_cons_succ]
  refine wpAnyZ_take (i := 8) (v := .slice (some ⟨kb, ko, none⟩) 1 a.c) [] rfl (by kernel_rfl) (by kernel_rfl) (by kernel_rfl) (by kernel_rfl) (fun _ _ _ h => h) (Or.inl ⟨by kernel_rfl, fun w' hSw => ?_⟩) hHeld ?_
  · have hS : Below W0.heap.size W0 w' := hSw
    have s0 := (hS.cell (p := ⟨Rr, 0, none⟩) hRl).trans r0
    have s1 := (hS.cell (p := ⟨Bd, 7, none⟩) hBl).trans b7
    have s2 := (hS.cell (p := ⟨X, 4, none⟩) hXl).trans x4
    have s3 := (hS.cell (p := ⟨kb, ko + 1, none⟩) hkl).trans k1
    have s4 : Rr < w'.heap.size := Nat.lt_of_lt_of_le hRl hS.size
    have s5 : Bd < w'.heap.size := Nat.lt_of_lt_of_le hBl hS.size
    have s6 : X < w'.heap.size := Nat.lt_of_lt_of_le hXl hS.size
    have s7 : kb < w'.heap.size := Nat.lt_of_lt_of_le hkl hS.size
    have s8 : (Instr.lookup 91 (.map (some Tb)) (.string nm) true).run Tryz.prog w' = .ok (.tuple #[.agg #[.int .i64 kd, .int .i64 ix], .bool true]) w' := HLK.out w' hS
    clear hS
    clear hHeld hSw
    go_simp
  simp only [Act.put, List.getElem_toArray, List.getElem_cons_zero, List.getElem_cons_succ, List.setIfInBounds_toArray, List.set_cons_zero, List.set_cons_succ]
  refine wpAnyZ_take (i := 9) (v := .pointer (some ⟨kb, ko, none⟩)) [] rfl (by kernel_rfl) (by kernel_rfl) (by kernel_rfl) (by kernel_rfl) (fun _ _ _ h => h) (Or.inl ⟨by kernel_rfl, fun w' hSw => ?_⟩) hHeld ?_
  · have hS : Below W0.heap.size W0 w' := hSw
    have s0 := (hS.cell (p := ⟨Rr, 0, none⟩) hRl).trans r0
    have s1 := (hS.cell (p := ⟨Bd, 7, none⟩) hBl).trans b7
    have s2 := (hS.cell (p := ⟨X, 4, none⟩) hXl).trans x4
    have s3 := (hS.cell (p := ⟨kb, ko + 1, none⟩) hkl).trans k1
    have s4 : Rr < w'.heap.size := Nat.lt_of_lt_of_le hRl hS.size
    have s5 : Bd < w'.heap.size := Nat.lt_of_lt_of_le hBl hS.size
    have s6 : X < w'.heap.size := Nat.lt_of_lt_of_le hXl hS.size
    have s7 : kb < w'.heap.size := Nat.lt_of_lt_of_le hkl hS.size
    have s8 : (Instr.lookup 91 (.map (some Tb)) (.string nm) true).run Tryz.prog w' = .ok (.tuple #[.agg #[.int .i64 kd, .int .i64 ix], .bool true]) w' := HLK.out w' hS
    clear hS
    clear hHeld hSw
    go_simp
  simp only [Act.put, List.getElem_toArray, List.getElem_cons_zero, List.getElem_cons_succ, List.setIfInBounds_toArray, List.set_cons_zero, List.set_cons_succ]
  refine wpAnyZ_take (i := 10) (v := .pointer (some ⟨kb, ko + 1, none⟩)) [] rfl (by kernel_rfl) (by kernel_rfl) (by kernel_rfl) (by kernel_rfl) (fun _ _ _ h => h) (Or.inl ⟨by kernel_rfl, fun w' hSw => ?_⟩) hHeld ?_
  · have hS : Below W0.heap.size W0 w' := hSw
    have s0 := (hS.cell (p := ⟨Rr, 0, none⟩) hRl).trans r0
    have s1 := (hS.cell (p := ⟨Bd, 7, none⟩) hBl).trans b7
    have s2 := (hS.cell (p := ⟨X, 4, none⟩) hXl).trans x4
    have s3 := (hS.cell (p := ⟨kb, ko + 1, none⟩) hkl).trans k1
    have s4 : Rr < w'.heap.size := Nat.lt_of_lt_of_le hRl hS.size
    have s5 : Bd < w'.heap.size := Nat.lt_of_lt_of_le hBl hS.size
    have s6 : X < w'.heap.size := Nat.lt_of_lt_of_le hXl hS.size
    have s7 : kb < w'.heap.size := Nat.lt_of_lt_of_le hkl hS.size
    have s8 : (Instr.lookup 91 (.map (some Tb)) (.string nm) true).run Tryz.prog w' = .ok (.tuple #[.agg #[.int .i64 kd, .int .i64 ix], .bool true]) w' := HLK.out w' hS
    clear hS
    clear hHeld hSw
    go_simp
  simp only [Act.put, List.getElem_toArray, List.getElem_cons_zero, List.getElem_cons_succ, List.setIfInBounds_toArray, List.set_cons_zero, List.set_cons_succ]
  refine wpAnyZ_take (i := 11) (v := .string nm) [] rfl (by kernel_rfl) (by kernel_rfl) (by kernel_rfl) (by kernel_rfl) (fun _ _ _ h => h) (Or.inl ⟨by kernel_rfl, fun w' hSw => ?_⟩) hHeld ?_
  · have hS : Below W0.heap.size W0 w' := hSw
    have s0 := (hS.cell (p := ⟨Rr, 0, none⟩) hRl).trans r0
    have s1 := (hS.cell (p := ⟨Bd, 7, none⟩) hBl).trans b7
    have s2 := (hS.cell (p := ⟨X, 4, none⟩) hXl).trans x4
    have s3 := (hS.cell (p := ⟨kb, ko + 1, none⟩) hkl).trans k1
    have s4 : Rr < w'.heap.size := Nat.lt_of_lt_of_le hRl hS.size
    have s5 : Bd < w'.heap.size := Nat.lt_of_lt_of_le hBl hS.size
    have s6 : X < w'.heap.size := Nat.lt_of_lt_of_le hXl hS.size
    have s7 : kb < w'.heap.size := Nat.lt_of_lt_of_le hkl hS.size
    have s8 : (Instr.lookup 91 (.map (some Tb)) (.string nm) true).run Tryz.prog w' = .ok (.tuple #[.agg #[.int .i64 kd, .int .i64 ix], .bool true]) w' := HLK.out w' hS
    clear hS
    clear hHeld hSw
    go_simp
  simp only [Act.put, List.getElem_toArray, List.getElem_cons_zero, List.getElem_cons_succ, List.setIfInBounds_toArray, List.set_cons_zero, List.set_cons_succ]
  refine wpAnyZ_take (i := 12) (v := .tuple #[.agg #[.int .i64 kd, .int .i64 ix], .bool true]) [] rfl (by kernel_rfl) (by kernel_rfl) (by kernel_rfl) (by kernel_rfl) (fun _ _ _ h => h) (Or.inl ⟨by kernel_rfl, fun w' hSw => ?_⟩) hHeld ?_
  · have hS : Below W0.heap.size W0 w' := hSw
    have s0 := (hS.cell (p := ⟨Rr, 0, none⟩) hRl).trans r0
    have s1 := (hS.cell (p := ⟨Bd, 7, none⟩) hBl).trans b7
    have s2 := (hS.cell (p := ⟨X, 4, none⟩) hXl).trans x4
    have s3 := (hS.cell (p := ⟨kb, ko + 1, none⟩) hkl).trans k1
    have s4 : Rr < w'.heap.size := Nat.lt_of_lt_of_le hRl hS.size
    have s5 : Bd < w'.heap.size := Nat.lt_of_lt_of_le hBl hS.size
    have s6 : X < w'.heap.size := Nat.lt_of_lt_of_le hXl hS.size
    have s7 : kb < w'.heap.size := Nat.lt_of_lt_of_le hkl hS.size
    have s8 : (Instr.lookup 91 (.map (some Tb)) (.string nm) true).run Tryz.prog w' = .ok (.tuple #[.agg #[.int .i64 kd, .int .i64 ix], .bool true]) w' := HLK.out w' hS
    clear hS
    clear hHeld hSw
    go_simp
  simp only [Act.put, List.getElem_toArray, List.getElem_cons_zero, List.getElem_cons_succ, List.setIfInBounds_toArray, List.set_cons_zero, List.set_cons_succ]
  refine wpAnyZ_take (i := 13) (v := .tuple #[.agg #[.int .i64 kd, .int .i64 ix], .bool true]) [] rfl (by kernel_rfl) (by kernel_rfl) (by kernel_rfl) (by kernel_rfl) (fun _ _ _ h => h) (Or.inl ⟨by kernel_rfl, fun w' hSw => ?_⟩) hHeld ?_
  · have hS : Below W0.heap.size W0 w' := hSw
    have s0 := (hS.cell (p := ⟨Rr, 0, none⟩) hRl).trans r0
    have s1 := (hS.cell (p := ⟨Bd, 7, none⟩) hBl).trans b7
    have s2 := (hS.cell (p := ⟨X, 4, none⟩) hXl).trans x4
    have s3 := (hS.cell (p := ⟨kb, ko + 1, none⟩) hkl).trans k1
    have s4 : Rr < w'.heap.size := Nat.lt_of_lt_of_le hRl hS.size
    have s5 : Bd < w'.heap.size := Nat.lt_of_lt_of_le hBl hS.size
    have s6 : X < w'.heap.size := Nat.lt_of_lt_of_le hXl hS.size
    have s7 : kb < w'.heap.size := Nat.lt_of_lt_of_le hkl hS.size
    have s8 : (Instr.lookup 91 (.map (some Tb)) (.string nm) true).run Tryz.prog w' = .ok (.tuple #[.agg #[.int .i64 kd, .int .i64 ix], .bool true]) w' := HLK.out w' hS
    clear hS
    clear hHeld hSw
    go_simp
  simp only [Act.put, List.getElem_toArray, List.getElem_cons_zero, List.getElem_cons_succ, List.setIfInBounds_toArray, List.set_cons_zero, List.set_cons_succ]
  refine wpAnyZ_take (i := 14) (v := .agg #[.int .i64 kd, .int .i64 ix]) [] rfl (by kernel_rfl) (by kernel_rfl) (by kernel_rfl) (by kernel_rfl) (fun _ _ _ h => h) (Or.inl ⟨by kernel_rfl, fun w' hSw => ?_⟩) hHeld ?_
  · have hS : Below W0.heap.size W0 w' := hSw
    have s0 := (hS.cell (p := ⟨Rr, 0, none⟩) hRl).trans r0
    have s1 := (hS.cell (p := ⟨Bd, 7, none⟩) hBl).trans b7
    have s2 := (hS.cell (p := ⟨X, 4, none⟩) hXl).trans x4
    have s3 := (hS.cell (p := ⟨kb, ko + 1, none⟩) hkl).trans k1
    have s4 : Rr < w'.heap.size := Nat.lt_of_lt_of_le hRl hS.size
    have s5 : Bd < w'.heap.size := Nat.lt_of_lt_of_le hBl hS.size
    have s6 : X < w'.heap.size := Nat.lt_of_lt_of_le hXl hS.size
    have s7 : kb < w'.heap.size := Nat.lt_of_lt_of_le hkl hS.size
    have s8 : (Instr.lookup 91 (.map (some Tb)) (.string nm) true).run Tryz.prog w' = .ok (.tuple #[.agg #[.int .i64 kd, .int .i64 ix], .bool true]) w' := HLK.out w' hS
    clear hS
    clear hHeld hSw
    go_simp
  simp only [Act.put, List.getElem_toArray, List.getElem_cons_zero, List.getElem_cons_succ, List.setIfInBounds_toArray, List.set_cons_zero, List.set_cons_succ]
  refine wpAnyZ_take (i := 15) (v := .bool true) [] rfl (by kernel_rfl) (by kernel_rfl) (by kernel_rfl) (by kernel_rfl) (fun _ _ _ h => h) (Or.inl ⟨by kernel_rfl, fun w' hSw => ?_⟩) hHeld ?_
  · have hS : Below W0.heap.size W0 w' := hSw
    have s0 := (hS.cell (p := ⟨Rr, 0, none⟩) hRl).trans r0
    have s1 := (hS.cell (p := ⟨Bd, 7, none⟩) hBl).trans b7
    have s2 := (hS.cell (p := ⟨X, 4, none⟩) hXl).trans x4
    have s3 := (hS.cell (p := ⟨kb, ko + 1, none⟩) hkl).trans k1
    have s4 : Rr < w'.heap.size := Nat.lt_of_lt_of_le hRl hS.size
    have s5 : Bd < w'.heap.size := Nat.lt_of_lt_of_le hBl hS.size
    have s6 : X < w'.heap.size := Nat.lt_of_lt_of_le hXl hS.size
    have s7 : kb < w'.heap.size := Nat.lt_of_lt_of_le hkl hS.size
    have s8 : (Instr.lookup 91 (.map (some Tb)) (.string nm) true).run Tryz.prog w' = .ok (.tuple #[.agg #[.int .i64 kd, .int .i64 ix], .bool true]) w' := HLK.out w' hS
    clear hS
    clear hHeld hSw
    go_simp
  simp only [Act.put, List.getElem_toArray, List.getElem_cons_zero, List.getElem_cons_succ, List.setIfInBounds_toArray, List.set_cons_zero, List.set_cons_succ]
  refine wpAnyZ_one (i := 16) (by kernel_rfl) rfl (fun K' hK => ?_)
  go_simp
  refine hK.out _ _ ?_ (fun hHeld' => ?_)
  · exact hHeld.alloc hHeld.size _
  obtain ⟨W1, hW1⟩ : ∃ W, W = wd.alloc (.cells #[.int .i64 0, .int .i64 0] 176) := ⟨_, rfl⟩
  obtain ⟨G, hG⟩ : ∃ G, G = wd.heap.size := ⟨_, rfl⟩
  have HO1 : Hid (Own W1 G 176 2 (fun i => ([.int .i64 0, .int .i64 0] : List Value)[i]?.getD undef)) := Lib.hid (by rw [hW1]; exact Own.newAt _ 176 #[.int .i64 0, .int .i64 0] G hG.symm rfl (fun i hi => by match i, hi with | 0, _ => rfl | 1, _ => rfl))
  try rw [show W0.drew.heap.size = W0.heap.size from rfl]
  rw [← hW1] at hHeld' ⊢
  rw [← hG]
  clear hK K' hHeld
  have hHeld := hHeld'
  clear hHeld'
  try simp only [Act.put, List.getElem_toArray, List.getElem_cons_zero, List.getElem_cons_succ, List.setIfInBounds_toArray, List.set_cons_zero, List.set_cons_succ]
  have c0 : W1.cell? ⟨G, 0, none⟩ = some (.int .i64 0) := HO1.out.cell (i := 0) (by omega)
  have c1 : W1.cell? ⟨G, 1, none⟩ = some (.int .i64 0) := HO1.out.cell (i := 1) (by omega)
  have f0 := HO1.out.frozen 0
  have f1 := HO1.out.frozen 1
  have hGl : G < W1.heap.size := HO1.out.lt
  have hgw : W0.heap.size ≤ G := by have := HWD.out; omega
  clear hW1 hG
  refine wpAnyZ_one (i := 17) (by kernel_rfl) rfl (fun K' hK => ?_)
  go_simp
  refine hK.out _ _ ?_ (fun hHeld' => ?_)
  · exact (hHeld.setCell (p := ⟨G, 0, none⟩) hgw _).setCell (p := ⟨G, 1, none⟩) hgw _
  obtain ⟨W2, hW2⟩ : ∃ W, W = (W1.setCell ⟨G, 0, none⟩ (.int .i64 kd)).setCell ⟨G, 1, none⟩ (.int .i64 ix) := ⟨_, rfl⟩
  have HO2 : Hid (Own W2 G 176 2 (fun i => ([.int .i64 kd, .int .i64 ix] : List Value)[i]?.getD undef)) := Lib.hid (by rw [hW2]; exact ((HO1.out.set 0 _).set 1 _).congr (fun i hi => by match i, hi with | 0, _ => rfl | 1, _ => rfl))
  rw [← hW2] at hHeld' ⊢
  clear hK K' hHeld hW2 c0 c1 f0 f1 hGl
  have hHeld := hHeld'
  clear hHeld'
  try simp only [Act.put, List.getElem_toArray, List.getElem_cons_zero, List.getElem_cons_succ, List.setIfInBounds_toArray, List.set_cons_zero, List.set_cons_succ]
  refine wpAnyZ_take (i := 18) (v := .bool true) [] rfl (by kernel_rfl) (by kernel_rfl) (by kernel_rfl) (by kernel_rfl) (fun _ _ _ h => h) (Or.inl ⟨by kernel_rfl, fun w' hSw => ?_⟩) hHeld ?_
  · have hS := hSw
    clear hHeld hSw
    go_simp
  simp only [Act.put, List.getElem_toArray, List.getElem_cons_zero, List.getElem_cons_succ, List.setIfInBounds_toArray, List.set_cons_zero, List.set_cons_succ]
  refine wpAnyZ_done (by kernel_rfl) ?_ _
  go_step
  go_step
  have t0 : W2.cell? ⟨G, 0, none⟩ = some (.int .i64 kd) := HO2.out.cell (i := 0) (by omega)
  have t1 : W2.cell? ⟨G, 1, none⟩ = some (.int .i64 ix) := HO2.out.cell (i := 1) (by omega)
  have hGl : G < W2.heap.size := HO2.out.lt
  have HRK2 := Lib.hid (HRK.out.keep hHeld)
  have HB2 : Hid (Below w.heap.size w W2) := Lib.hid (below_then HB0.out hHeld)
  clear x0 x1 x2 x3 x4 hXl k0 k1 hkl r0 hRl b7 hBl hHeld HR0 HLK HX0 HO1
  go_wp2_with fail
  go_loopg [44] n (fun g1 v44 wr => ∃ (i : Nat), v44 = .int .i64 i ∧ i ≤ n ∧ n - i ≤ g1 ∧ Hid (wr = W2) ∧ Hid (∀ j, j < i → (ks[j]?.getD 0) ≠ kd))
  case atStart => exact ⟨0, by go_num, by omega, by omega, Lib.hid rfl, Lib.hid (fun j hj => by omega)⟩
  case round =>
    obtain ⟨i, rfl, hi', hg1, HWR, HNO⟩ := hrel
    have t0 : wr.cell? ⟨G, 0, none⟩ = some (.int .i64 kd) := by rw [HWR.out]; exact t0
    have t1 : wr.cell? ⟨G, 1, none⟩ = some (.int .i64 ix) := by rw [HWR.out]; exact t1
    have hGl : G < wr.heap.size := by rw [HWR.out]; exact hGl
    have hlt : i < n := by
      rcases Nat.lt_or_ge i n with h | h
      · exact h
      · exfalso
        have h1 := HMEM.out
        rw [List.contains_iff_mem] at h1
        obtain ⟨j, hj, he⟩ := List.getElem_of_mem h1
        refine HNO.out j (by have := HN.out; omega) ?_
        rw [List.getElem?_eq_getElem hj]
        exact he
    have hltz : (i : Int) < (n : Int) := by omega
    obtain ⟨b, off, hA, hbl, hc⟩ := (by rw [HWR.out]; exact HRK2.out : Rd 1 encI wr A ks).int (k := i) (by rw [HN.out]; exact hlt)
    obtain ⟨z, hz⟩ : ∃ z, z = ks[i]?.getD 0 := ⟨_, rfl⟩
    rw [← hz] at hc
    have HZ := Lib.hid hz
    have HA := Lib.hid hA
    subst hA
    clear hz
    by_cases he : z = kd
    · have hez : (z == kd) = true := by simpa using he
      clear he
      go_wp2_with fail
      go_ret
      exact ⟨rfl, by rw [HWR.out]; exact HB2.out⟩
    · have hez : (z == kd) = false := by simpa using he
      have HN2 : Hid (∀ j, j < i + 1 → (ks[j]?.getD 0) ≠ kd) := Lib.hid (fun j hj => by
        by_cases h : j = i
        · subst h; rw [← HZ.out]; exact he
        · exact HNO.out j (by omega))
      clear he
      go_wp2_with fail
      go_roundg (n - (i + 1))
      case measure => omega
      case rel => exact ⟨i + 1, by go_num, by omega, by omega, HWR, HN2⟩
set_option maxRecDepth 100000 in
set_option maxHeartbeats 8000000 in
theorem stR4_ok (a hI : NH) (x : Nd Lf) (lo hi Rr Bd hb Tb nt : Nat) (s : RSt) (nm : ByteArray) (kd ix : Int) (f : Lit → Option Value) (w : World) (hok : okNd okLf w lo hi a x) (hhi : hi ≤ w.heap.size) (HR : Hid (RdgM w Rr Bd hI hb s)) (hB : w.cell? ⟨Bd, 7, none⟩ = some (.map (some Tb))) (HV : Hid (ValM Tryz.prog 9 w Tb nt f)) (hf : f (strL nm) = some (.agg #[.int .i64 kd, .int .i64 ix])) (hx : ∃ y, x.kids = [y] ∧ y.kind = 5 ∧ y.name = nm) (hnm : nm.size ≤ 8000) (hmem : ([1, 2] : List Int).contains kd = true) :
    Calls Tryz.prog 66 #[.pointer (some ⟨Rr, 0, none⟩), nhV a] w fun e w' => e = .returned (.tuple #[]) ∧ RdgM w' Rr Bd hI hb { s with chg := { s.chg with place := ix } } ∧ Mod (fun j => j = Rr) w w' := by
  obtain ⟨W0, hW0⟩ : ∃ W, W = w.alloc (.cells #[.int .i64 a.kind, .string a.name, .int .i64 a.n, .int .i64 (a.pos : Nat), .slice a.a a.len a.c] 49) := ⟨_, rfl⟩
  obtain ⟨X, hX⟩ : ∃ X, X = w.heap.size := ⟨_, rfl⟩
  have hb0 : Below w.heap.size w W0 := by rw [hW0]; exact (Below.refl _ _).alloc (Nat.le_refl _) _
  have HX0 : Hid (Own W0 X 49 5 (nodeF a.kind a.name a.n a.pos (.slice a.a a.len a.c))) := Lib.hid (by rw [hW0]; exact nodeF_new _ _ _ _ _ _ _ hX.symm)
  have HB0 := Lib.hid hb0
  have HW0 := Lib.hid hW0
  have HX := Lib.hid hX
  have HR0 := Lib.hid (HR.out.keep hb0 HR.out.lt)
  have HOK0 : Hid (okNd okLf W0 lo hi a x) := Lib.hid ((okNd_firm okLf_firm).calm hok (Calm.of (Mod.of_below hb0) (fun j _ h2 h3 => by omega)))
  have HV0 := Lib.hid (HV.out.keep hb0)
  have HBC : Hid (W0.cell? ⟨Bd, 7, none⟩ = some (.map (some Tb))) := Lib.hid ((hb0.cell (p := ⟨Bd, 7, none⟩) (World.block_lt_of_cell? _ _ hB)).trans hB)
  have HHI := Lib.hid hhi
  have HF := Lib.hid hf
  have HXK := Lib.hid hx
  have HMEM := Lib.hid hmem
  have HNM := Lib.hid hnm
  rw [show nhV a = .agg #[.int .i64 a.kind, .string a.name, .int .i64 a.n, .int .i64 (a.pos : Nat), .slice a.a a.len a.c] from rfl]
  clear hb0 hW0 hX hok hhi HR hB HV hf hx hmem hnm
  go_enter Tryz.func66, Tryz.ntmps66
  go_upto_region 1 with (fail)
  rw [← HW0.out, ← HX.out]
  clear HW0
  have x0 : W0.cell? ⟨X, 0, none⟩ = some (.int .i64 a.kind) := HX0.out.cell (i := 0) (by omega)
  have x1 : W0.cell? ⟨X, 1, none⟩ = some (.string a.name) := HX0.out.cell (i := 1) (by omega)
  have x2 : W0.cell? ⟨X, 2, none⟩ = some (.int .i64 a.n) := HX0.out.cell (i := 2) (by omega)
  have x3 : W0.cell? ⟨X, 3, none⟩ = some (.int .i64 (a.pos : Nat)) := HX0.out.cell (i := 3) (by omega)
  have x4 : W0.cell? ⟨X, 4, none⟩ = some (.slice a.a a.len a.c) := HX0.out.cell (i := 4) (by omega)
  have hXl : X < W0.heap.size := HX0.out.lt
  go_wp2_with fail
  obtain ⟨W1, hW1⟩ : ∃ W, W = W0.alloc (.cells #[.int .i64 1, .int .i64 2] 3) := ⟨_, rfl⟩
  obtain ⟨Q, hQ⟩ : ∃ Q, Q = W0.heap.size := ⟨_, rfl⟩
  rw [← hW1, ← hQ]
  have hb1 : Below W0.heap.size W0 W1 := by rw [hW1]; exact (Below.refl _ _).alloc (Nat.le_refl _) _
  have HRK : Hid (Rd 1 encI W1 (some ⟨Q, 0, none⟩) [1, 2]) := Lib.hid (by
    rw [hW1, hQ]
    exact (Own.new W0 3 #[.int .i64 1, .int .i64 2] undef).rd (by show 2 * 1 ≤ 2; omega) (fun _ => rfl) (fun k y hy j u hu => by
      match k, hy with
      | 0, hy =>
        obtain rfl : _ = y := by simpa using hy
        match j, hu with
        | 0, hu => simp [encI] at hu; rw [← hu]; rfl
        | j + 1, hu => simp [encI] at hu
      | 1, hy =>
        obtain rfl : _ = y := by simpa using hy
        match j, hu with
        | 0, hu => simp [encI] at hu; rw [← hu]; rfl
        | j + 1, hu => simp [encI] at hu
      | k + 2, hy => simp at hy))
  have HR1 := Lib.hid (HR0.out.keep hb1 HR0.out.lt)
  have HOK1 : Hid (okNd okLf W1 lo hi a x) := Lib.hid ((okNd_firm okLf_firm).calm HOK0.out (Calm.of (Mod.of_below hb1) (fun j _ h2 h3 => by have := HHI.out; have := HB0.out.size; omega)))
  have HMo1 : Hid (Mod (fun j => j = Rr) w W1) := Lib.hid ((modB HB0.out).trans (modB hb1))
  have HV1 := Lib.hid (HV0.out.keep hb1)
  have hsz1 : hi ≤ W1.heap.size := by have := HHI.out; have := HB0.out.size; have := hb1.size; omega
  have hB1 : W1.cell? ⟨Bd, 7, none⟩ = some (.map (some Tb)) := (hb1.cell (p := ⟨Bd, 7, none⟩) (World.block_lt_of_cell? _ _ HBC.out)).trans HBC.out
  have HCN := Lib.hid (stName_ok a hI x lo hi Rr Bd hb Tb nt s (some ⟨Q, 0, none⟩) 2 2 [1, 2] nm kd ix f W1 HOK1.out hsz1 HR1 hB1 HV1 HF.out HXK.out HNM.out HRK.out rfl (by omega) HMEM.out)
  rw [show nhV a = .agg #[.int .i64 a.kind, .string a.name, .int .i64 a.n, .int .i64 (a.pos : Nat), .slice a.a a.len a.c] from rfl] at HCN
  clear hW1 hQ hb1 hsz1 hB1 x0 x1 x2 x3 x4 hXl HX0 HR0 HOK0 HV0 HV1
  refine HCN.out.mono ?_
  rintro e W2 ⟨rfl, hb2⟩
  have HR2 := Lib.hid (HR1.out.keep hb2 HR1.out.lt)
  have HMo2 : Hid (Mod (fun j => j = Rr) w W2) := Lib.hid (HMo1.out.trans (modB hb2))
  have r23 : W2.cell? ⟨Rr, 23, none⟩ = some (.int .i64 s.chg.place) := HR2.out.cell (i := 23) (by omega)
  have f23 := HR2.out.frozen 23
  have hRl : Rr < W2.heap.size := HR2.out.lt
  clear hb2 HR1 HMo1 HOK1 HRK HCN
  go_wp2_with fail
  go_end0
  exact ⟨rfl, (RdgM.set (s' := { s with chg := { s.chg with place := ix } }) HR2.out 23 (.int .i64 ix) (by decide)), (HMo2.out).setCell (p := ⟨Rr, 23, none⟩) (.inl rfl) _⟩
set_option maxRecDepth 100000 in
set_option maxHeartbeats 8000000 in
theorem stR1_ok (a hI : NH) (x : Nd Lf) (lo hi Rr Bd hb Tb nt : Nat) (s : RSt) (nm : ByteArray) (kd ix : Int) (f : Lit → Option Value) (w : World) (hok : okNd okLf w lo hi a x) (hhi : hi ≤ w.heap.size) (HR : Hid (RdgM w Rr Bd hI hb s)) (hB : w.cell? ⟨Bd, 7, none⟩ = some (.map (some Tb))) (HV : Hid (ValM Tryz.prog 9 w Tb nt f)) (hf : f (strL nm) = some (.agg #[.int .i64 kd, .int .i64 ix])) (hx : ∃ y, x.kids = [y] ∧ y.kind = 5 ∧ y.name = nm) (hnm : nm.size ≤ 8000) (hmem : ([3] : List Int).contains kd = true) :
    Calls Tryz.prog 60 #[.pointer (some ⟨Rr, 0, none⟩), nhV a] w fun e w' => e = .returned (.tuple #[]) ∧ RdgM w' Rr Bd hI hb { s with ctr := { s.ctr with own := ix }, chg := { s.chg with own := ix } } ∧ Mod (fun j => j = Rr) w w' := by
  obtain ⟨W0, hW0⟩ : ∃ W, W = w.alloc (.cells #[.int .i64 a.kind, .string a.name, .int .i64 a.n, .int .i64 (a.pos : Nat), .slice a.a a.len a.c] 49) := ⟨_, rfl⟩
  obtain ⟨X, hX⟩ : ∃ X, X = w.heap.size := ⟨_, rfl⟩
  have hb0 : Below w.heap.size w W0 := by rw [hW0]; exact (Below.refl _ _).alloc (Nat.le_refl _) _
  have HX0 : Hid (Own W0 X 49 5 (nodeF a.kind a.name a.n a.pos (.slice a.a a.len a.c))) := Lib.hid (by rw [hW0]; exact nodeF_new _ _ _ _ _ _ _ hX.symm)
  have HB0 := Lib.hid hb0
  have HW0 := Lib.hid hW0
  have HX := Lib.hid hX
  have HR0 := Lib.hid (HR.out.keep hb0 HR.out.lt)
  have HOK0 : Hid (okNd okLf W0 lo hi a x) := Lib.hid ((okNd_firm okLf_firm).calm hok (Calm.of (Mod.of_below hb0) (fun j _ h2 h3 => by omega)))
  have HV0 := Lib.hid (HV.out.keep hb0)
  have HBC : Hid (W0.cell? ⟨Bd, 7, none⟩ = some (.map (some Tb))) := Lib.hid ((hb0.cell (p := ⟨Bd, 7, none⟩) (World.block_lt_of_cell? _ _ hB)).trans hB)
  have HHI := Lib.hid hhi
  have HF := Lib.hid hf
  have HXK := Lib.hid hx
  have HMEM := Lib.hid hmem
  have HNM := Lib.hid hnm
  rw [show nhV a = .agg #[.int .i64 a.kind, .string a.name, .int .i64 a.n, .int .i64 (a.pos : Nat), .slice a.a a.len a.c] from rfl]
  clear hb0 hW0 hX hok hhi HR hB HV hf hx hmem hnm
  go_enter Tryz.func60, Tryz.ntmps60
  go_upto_region 1 with (fail)
  rw [← HW0.out, ← HX.out]
  clear HW0
  have x0 : W0.cell? ⟨X, 0, none⟩ = some (.int .i64 a.kind) := HX0.out.cell (i := 0) (by omega)
  have x1 : W0.cell? ⟨X, 1, none⟩ = some (.string a.name) := HX0.out.cell (i := 1) (by omega)
  have x2 : W0.cell? ⟨X, 2, none⟩ = some (.int .i64 a.n) := HX0.out.cell (i := 2) (by omega)
  have x3 : W0.cell? ⟨X, 3, none⟩ = some (.int .i64 (a.pos : Nat)) := HX0.out.cell (i := 3) (by omega)
  have x4 : W0.cell? ⟨X, 4, none⟩ = some (.slice a.a a.len a.c) := HX0.out.cell (i := 4) (by omega)
  have hXl : X < W0.heap.size := HX0.out.lt
  go_wp2_with fail
  obtain ⟨W1, hW1⟩ : ∃ W, W = W0.alloc (.cells #[.int .i64 3] 3) := ⟨_, rfl⟩
  obtain ⟨Q, hQ⟩ : ∃ Q, Q = W0.heap.size := ⟨_, rfl⟩
  rw [← hW1, ← hQ]
  have hb1 : Below W0.heap.size W0 W1 := by rw [hW1]; exact (Below.refl _ _).alloc (Nat.le_refl _) _
  have HRK : Hid (Rd 1 encI W1 (some ⟨Q, 0, none⟩) [3]) := Lib.hid (by
    rw [hW1, hQ]
    exact (Own.new W0 3 #[.int .i64 3] undef).rd (by show 1 * 1 ≤ 1; omega) (fun _ => rfl) (fun k y hy j u hu => by
      match k, hy with
      | 0, hy =>
        obtain rfl : _ = y := by simpa using hy
        match j, hu with
        | 0, hu => simp [encI] at hu; rw [← hu]; rfl
        | j + 1, hu => simp [encI] at hu
      | k + 1, hy => simp at hy))
  have HR1 := Lib.hid (HR0.out.keep hb1 HR0.out.lt)
  have HOK1 : Hid (okNd okLf W1 lo hi a x) := Lib.hid ((okNd_firm okLf_firm).calm HOK0.out (Calm.of (Mod.of_below hb1) (fun j _ h2 h3 => by have := HHI.out; have := HB0.out.size; omega)))
  have HMo1 : Hid (Mod (fun j => j = Rr) w W1) := Lib.hid ((modB HB0.out).trans (modB hb1))
  have HV1 := Lib.hid (HV0.out.keep hb1)
  have hsz1 : hi ≤ W1.heap.size := by have := HHI.out; have := HB0.out.size; have := hb1.size; omega
  have hB1 : W1.cell? ⟨Bd, 7, none⟩ = some (.map (some Tb)) := (hb1.cell (p := ⟨Bd, 7, none⟩) (World.block_lt_of_cell? _ _ HBC.out)).trans HBC.out
  have HCN := Lib.hid (stName_ok a hI x lo hi Rr Bd hb Tb nt s (some ⟨Q, 0, none⟩) 1 1 [3] nm kd ix f W1 HOK1.out hsz1 HR1 hB1 HV1 HF.out HXK.out HNM.out HRK.out rfl (by omega) HMEM.out)
  rw [show nhV a = .agg #[.int .i64 a.kind, .string a.name, .int .i64 a.n, .int .i64 (a.pos : Nat), .slice a.a a.len a.c] from rfl] at HCN
  clear hW1 hQ hb1 hsz1 hB1 x0 x1 x2 x3 x4 hXl HX0 HR0 HOK0 HV0 HV1
  refine HCN.out.mono ?_
  rintro e W2 ⟨rfl, hb2⟩
  have HR2 := Lib.hid (HR1.out.keep hb2 HR1.out.lt)
  have HMo2 : Hid (Mod (fun j => j = Rr) w W2) := Lib.hid (HMo1.out.trans (modB hb2))
  have r19 : W2.cell? ⟨Rr, 19, none⟩ = some (.int .i64 s.ctr.own) := HR2.out.cell (i := 19) (by omega)
  have f19 := HR2.out.frozen 19
  have r29 : W2.cell? ⟨Rr, 29, none⟩ = some (.int .i64 s.chg.own) := HR2.out.cell (i := 29) (by omega)
  have f29 := HR2.out.frozen 29
  have hRl : Rr < W2.heap.size := HR2.out.lt
  clear hb2 HR1 HMo1 HOK1 HRK HCN
  go_wp2_with fail
  go_end0
  exact ⟨rfl, (RdgM.set (s' := { s with ctr := { s.ctr with own := ix }, chg := { s.chg with own := ix } }) (RdgM.set (s' := { s with ctr := { s.ctr with own := ix } }) HR2.out 19 (.int .i64 ix) (by decide)) 29 (.int .i64 ix) (by decide)), ((HMo2.out).setCell (p := ⟨Rr, 19, none⟩) (.inl rfl) _).setCell (p := ⟨Rr, 29, none⟩) (.inl rfl) _⟩
set_option maxRecDepth 100000 in
set_option maxHeartbeats 8000000 in
theorem stPhases_ok (a : NH) (x : Nd Lf) (lo hi : Nat) (w : World) (hok : okNd okLf w lo hi a x) (hhi : hi ≤ w.heap.size) (hl : x.kids.length = 1) (hk : ∀ y ∈ x.kids, y.kind = 6) (hv : kN x.kids 0 = 1) :
    Calls Tryz.prog 68 #[nhV a] w fun e w' => e = .returned (.int .i64 1) ∧ Below w.heap.size w w' := by
  have hal : a.len = 1 := by obtain ⟨_, _, _, _, hs, g⟩ := hok; rw [← g.rd.1, g.len, hl]
  obtain ⟨W0, hW0⟩ : ∃ W, W = w.alloc (.cells #[.int .i64 a.kind, .string a.name, .int .i64 a.n, .int .i64 (a.pos : Nat), .slice a.a a.len a.c] 49) := ⟨_, rfl⟩
  obtain ⟨X, hX⟩ : ∃ X, X = w.heap.size := ⟨_, rfl⟩
  have hb0 : Below w.heap.size w W0 := by rw [hW0]; exact (Below.refl _ _).alloc (Nat.le_refl _) _
  have HX0 : Hid (Own W0 X 49 5 (nodeF a.kind a.name a.n a.pos (.slice a.a a.len a.c))) := Lib.hid (by rw [hW0]; exact nodeF_new _ _ _ _ _ _ _ hX.symm)
  have HB0 := Lib.hid hb0
  have HW0 := Lib.hid hW0
  have HX := Lib.hid hX
  have HOK0 : Hid (okNd okLf W0 lo hi a x) := Lib.hid ((okNd_firm okLf_firm).calm hok (Calm.of (Mod.of_below hb0) (fun j _ h2 h3 => by omega)))
  have HHI := Lib.hid hhi
  have HL := Lib.hid hl
  have HK := Lib.hid hk
  have HVV := Lib.hid hv
  rw [show nhV a = .agg #[.int .i64 a.kind, .string a.name, .int .i64 a.n, .int .i64 (a.pos : Nat), .slice a.a a.len a.c] from rfl]
  have HCN := Lib.hid (fun W (h : okNd okLf W lo hi a x) (h2 : hi ≤ W.heap.size) A c (h3 : Rd 2 encSp W A [(1, 3)]) => stNumbers_ok a x lo hi A c 1 [(1, 3)] W h h2 h3 hl rfl hk (fun k p hp => by
    match k, hp with
    | 0, hp => obtain rfl : _ = p := (by simpa using hp); rw [hv]; rfl
    | k + 1, hp => simp at hp) (by omega))
  rw [show nhV a = .agg #[.int .i64 a.kind, .string a.name, .int .i64 a.n, .int .i64 (a.pos : Nat), .slice a.a a.len a.c] from rfl] at HCN
  rw [hal] at HX0 HW0 HCN ⊢
  clear hb0 hW0 hX hok hhi hl hk hv hal
  go_enter Tryz.func68, Tryz.ntmps68
  go_upto_region 1 with (fail)
  rw [← HW0.out, ← HX.out]
  clear HW0
  have x0 : W0.cell? ⟨X, 0, none⟩ = some (.int .i64 a.kind) := HX0.out.cell (i := 0) (by omega)
  have x1 : W0.cell? ⟨X, 1, none⟩ = some (.string a.name) := HX0.out.cell (i := 1) (by omega)
  have x2 : W0.cell? ⟨X, 2, none⟩ = some (.int .i64 a.n) := HX0.out.cell (i := 2) (by omega)
  have x3 : W0.cell? ⟨X, 3, none⟩ = some (.int .i64 (a.pos : Nat)) := HX0.out.cell (i := 3) (by omega)
  have x4 : W0.cell? ⟨X, 4, none⟩ = some (.slice a.a 1 a.c) := HX0.out.cell (i := 4) (by omega)
  have hXl : X < W0.heap.size := HX0.out.lt
  go_upto_region 5 with (fail)
  obtain ⟨W1, hW1⟩ : ∃ W, W = W0.alloc (.cells #[.int .i64 1, .int .i64 3, .int .i64 1, .int .i64 3, .int .i64 1, .int .i64 3] 133) := ⟨_, rfl⟩
  obtain ⟨Q, hQ⟩ : ∃ Q, Q = W0.heap.size := ⟨_, rfl⟩
  rw [← hW1, ← hQ]
  have hb1 : Below W0.heap.size W0 W1 := by rw [hW1]; exact (Below.refl _ _).alloc (Nat.le_refl _) _
  have HSP : Hid (Rd 2 encSp W1 (some ⟨Q, 0, none⟩) [(1, 3)]) := Lib.hid (by
    rw [hW1, hQ]
    exact (Own.new W0 133 #[.int .i64 1, .int .i64 3, .int .i64 1, .int .i64 3, .int .i64 1, .int .i64 3] undef).rd (by show 1 * 2 ≤ 6; omega) encSp_len (fun k y hy j u hu => by
      match k, hy with
      | 0, hy =>
        obtain rfl : _ = y := by simpa using hy
        match j, hu with
        | 0, hu => simp [encSp] at hu; rw [← hu]; rfl
        | 1, hu => simp [encSp] at hu; rw [← hu]; rfl
        | j + 2, hu => simp [encSp] at hu
      | k + 1, hy => simp at hy))
  have HOK1 : Hid (okNd okLf W1 lo hi a x) := Lib.hid ((okNd_firm okLf_firm).calm HOK0.out (Calm.of (Mod.of_below hb1) (fun j _ h2 h3 => by have := HHI.out; have := HB0.out.size; omega)))
  have HX1 := Lib.hid (HX0.out.keep hb1 HX0.out.lt)
  have HSZ1 : Hid (hi ≤ W1.heap.size) := Lib.hid (by have := HHI.out; have := HB0.out.size; have := hb1.size; omega)
  have HB1 : Hid (Below w.heap.size w W1) := Lib.hid (below_then HB0.out hb1)
  clear x0 x1 x2 x3 x4 hXl hW1 hQ hb1
  have x0 : W1.cell? ⟨X, 0, none⟩ = some (.int .i64 a.kind) := HX1.out.cell (i := 0) (by omega)
  have x1 : W1.cell? ⟨X, 1, none⟩ = some (.string a.name) := HX1.out.cell (i := 1) (by omega)
  have x2 : W1.cell? ⟨X, 2, none⟩ = some (.int .i64 a.n) := HX1.out.cell (i := 2) (by omega)
  have x3 : W1.cell? ⟨X, 3, none⟩ = some (.int .i64 (a.pos : Nat)) := HX1.out.cell (i := 3) (by omega)
  have x4 : W1.cell? ⟨X, 4, none⟩ = some (.slice a.a 1 a.c) := HX1.out.cell (i := 4) (by omega)
  have hXl : X < W1.heap.size := HX1.out.lt
  refine region_z (S := fun w' => Below W1.heap.size W1 w') [] (by kernel_rfl) (below_drewN' W1) (fun hHeld => ?_)
  obtain ⟨wd, hwd⟩ : ∃ wd, wd = W1.drew := ⟨_, rfl⟩
  rw [← hwd] at hHeld ⊢
  clear hwd
  refine wpAnyZ_take (i := 0) (v := .agg #[.int .i64 a.kind, .string a.name, .int .i64 a.n, .int .i64 (a.pos : Nat), .slice a.a 1 a.c]) [] rfl (by kernel_rfl) (by kernel_rfl) (by kernel_rfl) (by kernel_rfl) (fun _ _ _ h => h) (Or.inl ⟨by kernel_rfl, fun w' hSw => ?_⟩) hHeld ?_
  · have s0 := (hSw.cell (p := ⟨X, 0, none⟩) hXl).trans x0
    have s1 := (hSw.cell (p := ⟨X, 1, none⟩) hXl).trans x1
    have s2 := (hSw.cell (p := ⟨X, 2, none⟩) hXl).trans x2
    have s3 := (hSw.cell (p := ⟨X, 3, none⟩) hXl).trans x3
    have s4 := (hSw.cell (p := ⟨X, 4, none⟩) hXl).trans x4
    have s5 : X < w'.heap.size := Nat.lt_of_lt_of_le hXl hSw.size
    clear hHeld hSw
    go_simp
  simp only [Act.put, List.getElem_toArray, List.getElem_cons_zero, List.getElem_cons_succ, List.setIfInBounds_toArray, List.set_cons_zero, List.set_cons_succ]
  refine wpAnyZ_take (i := 1) (v := .slice (some ⟨Q, 0, none⟩) 3 3) [] rfl (by kernel_rfl) (by kernel_rfl) (by kernel_rfl) (by kernel_rfl) (fun _ _ _ h => h) (Or.inl ⟨by kernel_rfl, fun w' hSw => ?_⟩) hHeld ?_
  · have s0 := (hSw.cell (p := ⟨X, 0, none⟩) hXl).trans x0
    have s1 := (hSw.cell (p := ⟨X, 1, none⟩) hXl).trans x1
    have s2 := (hSw.cell (p := ⟨X, 2, none⟩) hXl).trans x2
    have s3 := (hSw.cell (p := ⟨X, 3, none⟩) hXl).trans x3
    have s4 := (hSw.cell (p := ⟨X, 4, none⟩) hXl).trans x4
    have s5 : X < w'.heap.size := Nat.lt_of_lt_of_le hXl hSw.size
    clear hHeld hSw
    go_simp
  simp only [Act.put, List.getElem_toArray, List.getElem_cons_zero, List.getElem_cons_succ, List.setIfInBounds_toArray, List.set_cons_zero, List.set_cons_succ]
  refine wpAnyZ_take (i := 2) (v := .pointer (some ⟨X, 4, none⟩)) [] rfl (by kernel_rfl) (by kernel_rfl) (by kernel_rfl) (by kernel_rfl) (fun _ _ _ h => h) (Or.inl ⟨by kernel_rfl, fun w' hSw => ?_⟩) hHeld ?_
  · have s0 := (hSw.cell (p := ⟨X, 0, none⟩) hXl).trans x0
    have s1 := (hSw.cell (p := ⟨X, 1, none⟩) hXl).trans x1
    have s2 := (hSw.cell (p := ⟨X, 2, none⟩) hXl).trans x2
    have s3 := (hSw.cell (p := ⟨X, 3, none⟩) hXl).trans x3
    have s4 := (hSw.cell (p := ⟨X, 4, none⟩) hXl).trans x4
    have s5 : X < w'.heap.size := Nat.lt_of_lt_of_le hXl hSw.size
    clear hHeld hSw
    go_simp
  simp only [Act.put, List.getElem_toArray, List.getElem_cons_zero, List.getElem_cons_succ, List.setIfInBounds_toArray, List.set_cons_zero, List.set_cons_succ]
  refine wpAnyZ_take (i := 3) (v := .slice a.a 1 a.c) [] rfl (by kernel_rfl) (by kernel_rfl) (by kernel_rfl) (by kernel_rfl) (fun _ _ _ h => h) (Or.inl ⟨by kernel_rfl, fun w' hSw => ?_⟩) hHeld ?_
  · have s0 := (hSw.cell (p := ⟨X, 0, none⟩) hXl).trans x0
    have s1 := (hSw.cell (p := ⟨X, 1, none⟩) hXl).trans x1
    have s2 := (hSw.cell (p := ⟨X, 2, none⟩) hXl).trans x2
    have s3 := (hSw.cell (p := ⟨X, 3, none⟩) hXl).trans x3
    have s4 := (hSw.cell (p := ⟨X, 4, none⟩) hXl).trans x4
    have s5 : X < w'.heap.size := Nat.lt_of_lt_of_le hXl hSw.size
    clear hHeld hSw
    go_simp
  simp only [Act.put, List.getElem_toArray, List.getElem_cons_zero, List.getElem_cons_succ, List.setIfInBounds_toArray, List.set_cons_zero, List.set_cons_succ]
  refine wpAnyZ_take (i := 4) (v := .int .i64 1) [] rfl (by kernel_rfl) (by kernel_rfl) (by kernel_rfl) (by kernel_rfl) (fun _ _ _ h => h) (Or.inl ⟨by kernel_rfl, fun w' hSw => ?_⟩) hHeld ?_
  · have s0 := (hSw.cell (p := ⟨X, 0, none⟩) hXl).trans x0
    have s1 := (hSw.cell (p := ⟨X, 1, none⟩) hXl).trans x1
    have s2 := (hSw.cell (p := ⟨X, 2, none⟩) hXl).trans x2
    have s3 := (hSw.cell (p := ⟨X, 3, none⟩) hXl).trans x3
    have s4 := (hSw.cell (p := ⟨X, 4, none⟩) hXl).trans x4
    have s5 : X < w'.heap.size := Nat.lt_of_lt_of_le hXl hSw.size
    clear hHeld hSw
    go_simp
  simp only [Act.put, List.getElem_toArray, List.getElem_cons_zero, List.getElem_cons_succ, List.setIfInBounds_toArray, List.set_cons_zero, List.set_cons_succ]
  refine wpAnyZ_take (i := 5) (v := .slice (some ⟨Q, 0, none⟩) 1 3) [] rfl (by kernel_rfl) (by kernel_rfl) (by kernel_rfl) (by kernel_rfl) (fun _ _ _ h => h) (Or.inl ⟨by kernel_rfl, fun w' hSw => ?_⟩) hHeld ?_
  · have s0 := (hSw.cell (p := ⟨X, 0, none⟩) hXl).trans x0
    have s1 := (hSw.cell (p := ⟨X, 1, none⟩) hXl).trans x1
    have s2 := (hSw.cell (p := ⟨X, 2, none⟩) hXl).trans x2
    have s3 := (hSw.cell (p := ⟨X, 3, none⟩) hXl).trans x3
    have s4 := (hSw.cell (p := ⟨X, 4, none⟩) hXl).trans x4
    have s5 : X < w'.heap.size := Nat.lt_of_lt_of_le hXl hSw.size
    clear hHeld hSw
    go_simp
  simp only [Act.put, List.getElem_toArray, List.getElem_cons_zero, List.getElem_cons_succ, List.setIfInBounds_toArray, List.set_cons_zero, List.set_cons_succ]
  refine wpAnyZ_take (i := 8) (v := .int .i64 0) [] rfl (by kernel_rfl) (by kernel_rfl) (by kernel_rfl) (by kernel_rfl) (fun _ _ _ h => h) (Or.inl ⟨by kernel_rfl, fun w' hSw => ?_⟩) hHeld ?_
  · have s0 := (hSw.cell (p := ⟨X, 0, none⟩) hXl).trans x0
    have s1 := (hSw.cell (p := ⟨X, 1, none⟩) hXl).trans x1
    have s2 := (hSw.cell (p := ⟨X, 2, none⟩) hXl).trans x2
    have s3 := (hSw.cell (p := ⟨X, 3, none⟩) hXl).trans x3
    have s4 := (hSw.cell (p := ⟨X, 4, none⟩) hXl).trans x4
    have s5 : X < w'.heap.size := Nat.lt_of_lt_of_le hXl hSw.size
    clear hHeld hSw
    go_simp
  simp only [Act.put, List.getElem_toArray, List.getElem_cons_zero, List.getElem_cons_succ, List.setIfInBounds_toArray, List.set_cons_zero, List.set_cons_succ]
  refine wpAnyZ_one (i := 6) (by kernel_rfl) rfl (fun K' hK => ?_)
  go_simp
  have hokd := (okNd_firm okLf_firm).calm HOK1.out (Calm.of (Mod.of_below hHeld) (fun j _ h2 h3 => by have := HSZ1.out; omega))
  refine (HCN.out wd hokd (by have := HSZ1.out; have := hHeld.size; omega) (some ⟨Q, 0, none⟩) 3 (HSP.out.keep hHeld)).mono ?_
  rintro e W3 ⟨g, rfl, hog, hge, hb3⟩
  have HOG := Lib.hid hog
  have hbb : Below W1.heap.size W1 W3 := below_then hHeld hb3
  clear hokd hog hge hb3
  refine hK.out _ _ ?_ (fun hHeld' => ?_)
  · exact hbb
  clear hK K' hHeld hbb
  have hHeld := hHeld'
  clear hHeld'
  try simp only [Act.put, List.getElem_toArray, List.getElem_cons_zero, List.getElem_cons_succ, List.setIfInBounds_toArray, List.set_cons_zero, List.set_cons_succ]
  refine wpAnyZ_take (i := 7) (v := .int .i64 1) [] rfl (by kernel_rfl) (by kernel_rfl) (by kernel_rfl) (by kernel_rfl) (fun _ _ _ h => h) (Or.inl ⟨by kernel_rfl, fun w' hSw => ?_⟩) hHeld ?_
  · have s0 := hSw
    clear hHeld hSw
    go_simp
  simp only [Act.put, List.getElem_toArray, List.getElem_cons_zero, List.getElem_cons_succ, List.setIfInBounds_toArray, List.set_cons_zero, List.set_cons_succ]
  refine wpAnyZ_done (by kernel_rfl) ?_ _
  go_step
  go_step
  have HB2 : Hid (Below w.heap.size w W3) := Lib.hid (below_then HB1.out hHeld)
  have g0 : W3.cell? ⟨g, 0, none⟩ = some (.int .i64 1) := by have h := HOG.out.cell (i := 0) (by omega); rw [HVV.out] at h; exact h
  have hgl : g < W3.heap.size := HOG.out.lt
  clear x0 x1 x2 x3 x4 hXl hHeld
  go_wp2_with fail
  go_loopg [4, 5, 32] 1 (fun g1 v4 v5 v32 wr => ∃ (i : Nat), v32 = .int .i64 i ∧ i ≤ 1 ∧ 1 - i ≤ g1 ∧ v4 = .int .i64 (i : Nat) ∧ v5 = .int .i64 (i : Nat) ∧ Hid (wr = W3))
  case atStart => exact ⟨0, by go_num, by omega, by omega, by go_num, by go_num, Lib.hid rfl⟩
  case round =>
    obtain ⟨i, rfl, hi', hg1, rfl, rfl, HWR⟩ := hrel
    by_cases hlt : i < 1
    · obtain rfl : i = 0 := by omega
      have g0 : wr.cell? ⟨g, 0, none⟩ = some (.int .i64 1) := by rw [HWR.out]; exact g0
      have hgl : g < wr.heap.size := by rw [HWR.out]; exact hgl
      go_wp2_with fail
      go_roundg 0
      case measure => omega
      case rel => exact ⟨1, by go_num, by omega, by omega, by go_num, by go_num, HWR⟩
    · obtain rfl : i = 1 := by omega
      go_wp2_with fail
      go_ret
      exact ⟨rfl, by rw [HWR.out]; exact HB2.out⟩
end Go.Proofs.YtpkonifeieepfaaGreat
