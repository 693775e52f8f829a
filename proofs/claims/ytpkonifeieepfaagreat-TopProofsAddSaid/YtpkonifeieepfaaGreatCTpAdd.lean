/-
TopProofsAdd, walked.
-/
import Derived.Test.YtpkonifeieepfaaGreatCTpUse
import Derived.Test.YtpkonifeieepfaaGreatCTpMath
import Derived.Test.YtpkonifeieepfaaGreatCTpHd
import Derived.Test.YtpkonifeieepfaaGreatGLOpen
namespace Go.Proofs.YtpkonifeieepfaaGreat
open Go.RowKit
set_option linter.unusedVariables false
set_option linter.unusedSimpArgs false
theorem useB_load {s : GSite} {xs : List Int} (h : useB s xs = true) : loadB s xs = true := by
  unfold useB at h
  simp only [Bool.and_eq_true] at h
  unfold loadB
  rw [h.1.2, h.2]
  rfl
theorem rd3_at {W : World} {a : Option Addr} {s : GSite} {xs : List Int} (h : Rd 3 enc3 W a (loadsOf s xs)) {i k : Nat} (hi : i < s.cons.length) (hk : k < 3) : ∃ b off, a = some ⟨b, off, none⟩ ∧ b < W.heap.size ∧ W.cell? ⟨b, off + i * 3 + k, none⟩ = some (.int .i64 (loadS s (fI xs) s.chgs.length (i * 3 + k))) := by
  obtain ⟨b, off, x, hA, hb, hx, hc⟩ := h.at_ (k := i) (by rw [loadsOf_len]; exact hi)
  rw [loadsOf_at hi] at hx
  injection hx with hx
  subst hx
  refine ⟨b, off, hA, hb, hc k _ ?_⟩
  match k, hk with
  | 0, _ => rfl
  | 1, _ => rfl
  | 2, _ => rfl
theorem cells2 {W W' : World} {p q : Addr} {u v : Value} (hb : Below W.heap.size W W') (h : W.cell? p = some u ∧ W.cell? q = some v) : W'.cell? p = some u ∧ W'.cell? q = some v :=
  ⟨(hb.cell (World.block_lt_of_cell? _ _ h.1)).trans h.1, (hb.cell (World.block_lt_of_cell? _ _ h.2)).trans h.2⟩
set_option maxRecDepth 100000 in
set_option maxHeartbeats 16000000 in
theorem walk_TopProofsAdd (a1 : Option Addr) (n1 c1 : Nat) (a2 : Option Addr) (n2 c2 : Nat) (a3 : Option Addr) (n3 c3 : Nat) (a4 : Option Addr) (n4 c4 : Nat) (a5 : Option Addr) (n5 c5 : Nat) (s : GSite) {w : World} (HS : Hid (RdSite w a1 a2 a3 a4 a5 n1 n2 n3 n4 n5 s)) (_ : WfSite s) (aA : Option Addr) (cA nA : Nat) (xs : List Int) (hX : Rd 1 encI w aA xs) (HNA : Hid (xs.length = nA)) (hnA : nA ≤ 9223372036854775807) (_ : ∀ x, x ∈ xs → wfI64 x) (aB : Option Addr) (cB nB : Nat) (ys : List Int) (hY : Rd 1 encI w aB ys) (HNB : Hid (ys.length = nB)) (hnB : nB ≤ 9223372036854775807) (_ : ∀ x, x ∈ ys → wfI64 x) :
    Calls Tryz.prog 3 #[.agg #[.slice a1 n1 c1, .slice a2 n2 c2, .slice a3 n3 c3, .slice a4 n4 c4, .slice a5 n5 c5], .slice aA nA cA, .slice aB nB cB] w fun e w' => e = .returned (.bool true) ∧ Below w.heap.size w w' := by
  have HX := Lib.hid hX
  have HY := Lib.hid hY
  clear hX hY
  obtain ⟨W0, hW0⟩ : ∃ W0, W0 = w.alloc (.cells #[.slice a1 n1 c1, .slice a2 n2 c2, .slice a3 n3 c3, .slice a4 n4 c4, .slice a5 n5 c5] 28) := ⟨_, rfl⟩
  have hm0 : LwM w W0 w.heap.size a1 n1 c1 a2 n2 c2 a3 n3 c3 a4 n4 c4 a5 n5 c5 s := by
    rw [hW0]
    exact LwM.box (c1 := c1) (c2 := c2) (c3 := c3) (c4 := c4) (c5 := c5) HS.out
  have HM := Lib.hid hm0
  have HW0 := Lib.hid hW0
  clear hm0 hW0
  go_enter Tryz.func3, Tryz.ntmps3
  go_wp2_with fail
  rw [← HW0.out]
  clear HW0
  obtain ⟨X, hX0⟩ : ∃ X, X = w.heap.size := ⟨_, rfl⟩
  rw [← hX0] at HM ⊢
  have HSZ : Hid (w.heap.size = X) := Lib.hid hX0.symm
  clear hX0
  refine (tpHead_any W0).mono ?_
  rintro e w1 ⟨rfl, hb⟩
  have HM := Lib.hid (HM.out.keep (hb))
  clear hb
  obtain ⟨k0, k1, k2, k3, k4⟩ : w1.cell? ⟨X, 0, none⟩ = some (.slice a1 n1 c1) ∧ w1.cell? ⟨X, 1, none⟩ = some (.slice a2 n2 c2) ∧ w1.cell? ⟨X, 2, none⟩ = some (.slice a3 n3 c3) ∧ w1.cell? ⟨X, 3, none⟩ = some (.slice a4 n4 c4) ∧ w1.cell? ⟨X, 4, none⟩ = some (.slice a5 n5 c5) := ⟨HM.out.k0, HM.out.k1, HM.out.k2, HM.out.k3, HM.out.k4⟩
  have hlX : X < w1.heap.size := World.block_lt_of_cell? w1 _ k0
  go_wp2_with fail
  refine (tpUse_any a1 a2 a3 a4 a5 n1 c1 n2 c2 n3 c3 n4 c4 n5 c5 aA nA cA s xs w1 (Lib.hid HM.out.rs) (Lib.hid (HX.out.keep HM.out.bel)) HNA (by omega)).mono ?_
  rintro e w2 ⟨rfl, hb⟩
  have HM := Lib.hid (HM.out.keep (hb))
  clear hb
  clear k0 k1 k2 k3 k4 hlX
  obtain ⟨k0, k1, k2, k3, k4⟩ : w2.cell? ⟨X, 0, none⟩ = some (.slice a1 n1 c1) ∧ w2.cell? ⟨X, 1, none⟩ = some (.slice a2 n2 c2) ∧ w2.cell? ⟨X, 2, none⟩ = some (.slice a3 n3 c3) ∧ w2.cell? ⟨X, 3, none⟩ = some (.slice a4 n4 c4) ∧ w2.cell? ⟨X, 4, none⟩ = some (.slice a5 n5 c5) := ⟨HM.out.k0, HM.out.k1, HM.out.k2, HM.out.k3, HM.out.k4⟩
  have hlX : X < w2.heap.size := World.block_lt_of_cell? w2 _ k0
  obtain ⟨q, hq⟩ : ∃ q, q = useB s xs := ⟨_, rfl⟩
  rw [← hq]
  have HUxs := Lib.hid hq
  clear hq
  cases q
  · go_wp2_with fail
    go_ret
    exact ⟨rfl, HM.out.bel⟩
  have HLxs : Hid (loadB s xs = true) := Lib.hid (useB_load HUxs.out.symm)
  go_wp2_with fail
  refine (tpUse_any a1 a2 a3 a4 a5 n1 c1 n2 c2 n3 c3 n4 c4 n5 c5 aB nB cB s ys w2 (Lib.hid HM.out.rs) (Lib.hid (HY.out.keep HM.out.bel)) HNB (by omega)).mono ?_
  rintro e w3 ⟨rfl, hb⟩
  have HM := Lib.hid (HM.out.keep (hb))
  clear hb
  clear k0 k1 k2 k3 k4 hlX
  obtain ⟨k0, k1, k2, k3, k4⟩ : w3.cell? ⟨X, 0, none⟩ = some (.slice a1 n1 c1) ∧ w3.cell? ⟨X, 1, none⟩ = some (.slice a2 n2 c2) ∧ w3.cell? ⟨X, 2, none⟩ = some (.slice a3 n3 c3) ∧ w3.cell? ⟨X, 3, none⟩ = some (.slice a4 n4 c4) ∧ w3.cell? ⟨X, 4, none⟩ = some (.slice a5 n5 c5) := ⟨HM.out.k0, HM.out.k1, HM.out.k2, HM.out.k3, HM.out.k4⟩
  have hlX : X < w3.heap.size := World.block_lt_of_cell? w3 _ k0
  obtain ⟨q, hq⟩ : ∃ q, q = useB s ys := ⟨_, rfl⟩
  rw [← hq]
  have HUys := Lib.hid hq
  clear hq
  cases q
  · go_wp2_with fail
    go_ret
    exact ⟨rfl, HM.out.bel⟩
  have HLys : Hid (loadB s ys = true) := Lib.hid (useB_load HUys.out.symm)
  go_wp2_with fail
  have HNN : Hid (nA = s.chgs.length ∧ nB = nA ∧ nA ≤ 16 ∧ n1 = s.cons.length ∧ n1 ≤ 16) := Lib.hid (by
    have h1 := loadB_iff' HLxs.out
    have h2 := loadB_iff' HLys.out
    have := h1.1.n5
    have := h1.1.n2
    have := HNA.out
    have := HNB.out
    have := HM.out.rs.l1
    omega)
  obtain rfl : nB = nA := HNN.out.2.1
  have hn16 : nB ≤ 16 := HNN.out.2.2.1
  have HSB := Lib.hid HM.out.bel
  obtain ⟨B, hB⟩ : ∃ B, B = w3.heap.size := ⟨_, rfl⟩
  have HBS := Lib.hid hB
  clear hB k0 k1 k2 k3 k4 hlX

  go_loopg [8, 35] nB (fun g1 v8 v35 wr => ∃ i : Nat, v35 = .int .i64 i ∧ i ≤ nB ∧ nB - i ≤ g1 ∧ Hid (OwnN wr B v8 (rowN (fun k => fI xs k + fI ys k) i)) ∧ Hid (Below B w3 wr))
  case atStart => exact ⟨0, by go_num, by omega, by omega, Lib.hid (OwnR.nil _ _), Lib.hid (Below.refl _ _)⟩
  case round =>
    obtain ⟨i, rfl, hi, hg1, HO, HB⟩ := hrel
    by_cases hlt : i < nB
    · have hltz : (i : Int) < (nB : Int) := by omega
      obtain ⟨va, vc, hv⟩ := HO.out.shape
      rw [rowN_len] at hv
      subst hv
      obtain ⟨bx, ox, hA, hbx, hcx⟩ := (HX.out.keep (below_then HSB.out (HBS.out ▸ HB.out))).int (k := i) (by have := HNA.out; omega)
      obtain ⟨bY, oy, hAy, hby, hcy⟩ := (HY.out.keep (below_then HSB.out (HBS.out ▸ HB.out))).int (k := i) (by have := HNB.out; omega)
      have hx80 := (loadB_iff' HLxs.out).2.2 i (by have := HNA.out; omega)
      have hy80 := (loadB_iff' HLys.out).2.2 i (by have := HNB.out; omega)
      change wr.cell? ⟨bx, ox + i, none⟩ = some (.int .i64 (fI xs i)) at hcx
      change wr.cell? ⟨bY, oy + i, none⟩ = some (.int .i64 (fI ys i)) at hcy
      have HROW : Hid (rowN (fun k => fI xs k + fI ys k) (i + 1) = rowN (fun k => fI xs k + fI ys k) i ++ [fI xs i + fI ys i]) := Lib.hid (rowN_succ _ _)
      have hwi : IntKind.i64.wrap (fI xs i + fI ys i) = fI xs i + fI ys i := IntWalk.i64_in _ (by omega)
      generalize fI xs i = x at *
      generalize fI ys i = y at *
      subst hA hAy
      have hBsz : B ≤ wr.heap.size := by rw [HBS.out]; exact HB.out.size
      obtain ⟨wd, hwd⟩ : ∃ W, W = wr.drew := ⟨_, rfl⟩
      have hbd : Below wr.heap.size wr wd := by rw [hwd]; exact below_drew wr
      have HWD := Lib.hid hwd
      clear hwd
      obtain ⟨ap, v', w5, av, aw, HO1, HA1⟩ := app_num (x + y) (HO.out.keep hbd) (Nat.le_trans hBsz hbd.size) (by rw [rowN_len]; omega)
      have HB2 : Hid (Below B w3 w5) := Lib.hid ((HB.out.trans (hbd.mono hBsz)).trans HA1.out.bel)
      have HO2 : Hid (OwnN w5 B v' (rowN (fun k => fI xs k + fI ys k) (i + 1))) := Lib.hid (by rw [HROW.out]; exact HO1.out)
      clear HO1 HA1 HO HB HROW hBsz hbd
      go_upto_region 8 with (fail)
      refine region_z (S := fun w' => w'.cell? ⟨bx, ox + i, none⟩ = some (.int .i64 x) ∧ w'.cell? ⟨bY, oy + i, none⟩ = some (.int .i64 y)) [11, 12] (by kernel_rfl) ⟨hcx, hcy⟩ (fun hHeld => ?_)
      rw [← HWD.out] at hHeld ⊢
      clear HWD hcx hcy
      refine wpAnyZ_take (i := 0) (v := .slice va i vc) [11, 12] rfl (by kernel_rfl) (by kernel_rfl) (by kernel_rfl) (by kernel_rfl) (fun _ _ _ h => h) (Or.inl ⟨by kernel_rfl, fun w' hSw => ?_⟩) hHeld ?_
      · clear hHeld hSw
        go_simp
      simp only [Act.put, List.getElem_toArray, List.getElem_cons_zero, List.getElem_cons_succ, List.setIfInBounds_toArray, List.set_cons_zero, List.set_cons_succ]
      refine wpAnyZ_take (i := 1) (v := .slice (some ⟨bx, ox, none⟩) nB cA) [3, 4, 9, 10, 11, 12] rfl (by kernel_rfl) (by kernel_rfl) (by kernel_rfl) (by kernel_rfl) (fun _ _ _ h => h) (Or.inl ⟨by kernel_rfl, fun w' hSw => ?_⟩) hHeld ?_
      · clear hHeld hSw
        go_simp
      simp only [Act.put, List.getElem_toArray, List.getElem_cons_zero, List.getElem_cons_succ, List.setIfInBounds_toArray, List.set_cons_zero, List.set_cons_succ]
      refine wpAnyZ_take (i := 2) (v := .int .i64 (i : Nat)) [3, 4, 9, 10, 11, 12] rfl (by kernel_rfl) (by kernel_rfl) (by kernel_rfl) (by kernel_rfl) (fun _ _ _ h => h) (Or.inl ⟨by kernel_rfl, fun w' hSw => ?_⟩) hHeld ?_
      · clear hHeld hSw
        go_simp
      simp only [Act.put, List.getElem_toArray, List.getElem_cons_zero, List.getElem_cons_succ, List.setIfInBounds_toArray, List.set_cons_zero, List.set_cons_succ]
      refine wpAnyZ_take (i := 3) (v := .pointer (some ⟨bx, ox + i, none⟩)) [4, 9, 10, 11, 12] rfl (by kernel_rfl) (by kernel_rfl) (by kernel_rfl) (by kernel_rfl) (fun _ _ _ h => h) (Or.inl ⟨by kernel_rfl, fun w' hSw => ?_⟩) hHeld ?_
      · clear hHeld hSw
        go_simp
      simp only [Act.put, List.getElem_toArray, List.getElem_cons_zero, List.getElem_cons_succ, List.setIfInBounds_toArray, List.set_cons_zero, List.set_cons_succ]
      refine wpAnyZ_take (i := 4) (v := .int .i64 x) [9, 10, 11, 12] rfl (by kernel_rfl) (by kernel_rfl) (by kernel_rfl) (by kernel_rfl) (fun _ _ _ h => h) (Or.inl ⟨by kernel_rfl, fun w' hSw => ?_⟩) hHeld ?_
      · have s0 := hSw.1
        have s1 := hSw.2
        clear hHeld hSw
        go_simp
      simp only [Act.put, List.getElem_toArray, List.getElem_cons_zero, List.getElem_cons_succ, List.setIfInBounds_toArray, List.set_cons_zero, List.set_cons_succ]
      refine wpAnyZ_take (i := 5) (v := .slice (some ⟨bY, oy, none⟩) nB cB) [7, 8, 9, 10, 11, 12] rfl (by kernel_rfl) (by kernel_rfl) (by kernel_rfl) (by kernel_rfl) (fun _ _ _ h => h) (Or.inl ⟨by kernel_rfl, fun w' hSw => ?_⟩) hHeld ?_
      · clear hHeld hSw
        go_simp
      simp only [Act.put, List.getElem_toArray, List.getElem_cons_zero, List.getElem_cons_succ, List.setIfInBounds_toArray, List.set_cons_zero, List.set_cons_succ]
      refine wpAnyZ_take (i := 6) (v := .int .i64 (i : Nat)) [7, 8, 9, 10, 11, 12] rfl (by kernel_rfl) (by kernel_rfl) (by kernel_rfl) (by kernel_rfl) (fun _ _ _ h => h) (Or.inl ⟨by kernel_rfl, fun w' hSw => ?_⟩) hHeld ?_
      · clear hHeld hSw
        go_simp
      simp only [Act.put, List.getElem_toArray, List.getElem_cons_zero, List.getElem_cons_succ, List.setIfInBounds_toArray, List.set_cons_zero, List.set_cons_succ]
      refine wpAnyZ_take (i := 7) (v := .pointer (some ⟨bY, oy + i, none⟩)) [8, 9, 10, 11, 12] rfl (by kernel_rfl) (by kernel_rfl) (by kernel_rfl) (by kernel_rfl) (fun _ _ _ h => h) (Or.inl ⟨by kernel_rfl, fun w' hSw => ?_⟩) hHeld ?_
      · clear hHeld hSw
        go_simp
      simp only [Act.put, List.getElem_toArray, List.getElem_cons_zero, List.getElem_cons_succ, List.setIfInBounds_toArray, List.set_cons_zero, List.set_cons_succ]
      refine wpAnyZ_take (i := 8) (v := .int .i64 y) [9, 10, 11, 12] rfl (by kernel_rfl) (by kernel_rfl) (by kernel_rfl) (by kernel_rfl) (fun _ _ _ h => h) (Or.inl ⟨by kernel_rfl, fun w' hSw => ?_⟩) hHeld ?_
      · have s0 := hSw.1
        have s1 := hSw.2
        clear hHeld hSw
        go_simp
      simp only [Act.put, List.getElem_toArray, List.getElem_cons_zero, List.getElem_cons_succ, List.setIfInBounds_toArray, List.set_cons_zero, List.set_cons_succ]
      refine wpAnyZ_take (i := 9) (v := .int .i64 (x + y)) [10, 11, 12] rfl (by kernel_rfl) (by kernel_rfl) (by kernel_rfl) (by kernel_rfl) (fun _ _ _ h => h) (Or.inl ⟨by kernel_rfl, fun w' hSw => ?_⟩) hHeld ?_
      · clear hHeld hSw
        go_simp
      simp only [Act.put, List.getElem_toArray, List.getElem_cons_zero, List.getElem_cons_succ, List.setIfInBounds_toArray, List.set_cons_zero, List.set_cons_succ]
      refine wpAnyZ_one (i := 10) (by kernel_rfl) rfl (fun K' hK => ?_)
      go_simp
      refine hK.out _ _ ?_ (fun hHeld' => ?_)
      · exact cells2 ((Below.refl _ _).alloc (Nat.le_refl _) _) hHeld
      clear hK K' hHeld
      have hHeld := hHeld'
      clear hHeld'
      try simp only [Act.put, List.getElem_toArray, List.getElem_cons_zero, List.getElem_cons_succ, List.setIfInBounds_toArray, List.set_cons_zero, List.set_cons_succ]
      clear hHeld
      refine wpAnyZ_last (i := 11) (by kernel_rfl) rfl (by kernel_rfl) (fun K' hK => ?_)
      rw [if_pos (by rfl)]
      refine append_go rfl rfl ap av aw ?_
      refine hK.out _ _ ?_
      clear hK K'
      try simp only [Act.put, List.getElem_toArray, List.getElem_cons_zero, List.getElem_cons_succ, List.setIfInBounds_toArray, List.set_cons_zero, List.set_cons_succ]
      clear ap av aw
      refine wpAnyZ_last (i := 12) (by kernel_rfl) rfl (by kernel_rfl) (fun K' hK => ?_)
      go_simp
      refine hK.out _ _ ?_
      clear hK K'
      try simp only [Act.put, List.getElem_toArray, List.getElem_cons_zero, List.getElem_cons_succ, List.setIfInBounds_toArray, List.set_cons_zero, List.set_cons_succ]
      refine wpAnyZ_done (by kernel_rfl) ?_ _
      go_step
      go_step
      go_wp2_with fail
      go_roundg (nB - (i + 1))
      case measure => omega
      case rel => exact ⟨i + 1, by go_num, by omega, by omega, HO2, HB2⟩
    · have hltz : ¬ (i : Int) < (nB : Int) := by omega
      have HM := Lib.hid (HM.out.keep (HBS.out ▸ HB.out))
      have HIX : Hid (i = nB) := Lib.hid (by omega)
      have hv := HO.out.rd encI_len1
      rw [rowN_len, HIX.out] at hv
      obtain ⟨ab, cb, hv, hrb⟩ := hv
      subst hv
      have HBO : Hid (Rd 1 encI wr ab (addL xs ys)) := Lib.hid (by unfold addL; rw [HNA.out]; exact hrb)
      have HBN : Hid ((addL xs ys).length = nB) := Lib.hid (by unfold addL; rw [rowN_len]; exact HNA.out)
      clear hrb HO HB
      obtain ⟨k0, k1, k2, k3, k4⟩ : wr.cell? ⟨X, 0, none⟩ = some (.slice a1 n1 c1) ∧ wr.cell? ⟨X, 1, none⟩ = some (.slice a2 n2 c2) ∧ wr.cell? ⟨X, 2, none⟩ = some (.slice a3 n3 c3) ∧ wr.cell? ⟨X, 3, none⟩ = some (.slice a4 n4 c4) ∧ wr.cell? ⟨X, 4, none⟩ = some (.slice a5 n5 c5) := ⟨HM.out.k0, HM.out.k1, HM.out.k2, HM.out.k3, HM.out.k4⟩
      have hlX : X < wr.heap.size := World.block_lt_of_cell? wr _ k0
      go_wp2_with fail
      refine (prProve_any a1 a2 a3 a4 a5 n1 c1 n2 c2 n3 c3 n4 c4 n5 c5 ab nB cb s (addL xs ys) wr (Lib.hid HM.out.rs) HBO HBN (by omega)).mono ?_
      rintro e v4 ⟨ap4, np4, cp4, aw4, nw4, cw4, ps4, ws4, er4, rfl, hp, hpl, hw, hwl, HR4, hb⟩
      have HM := Lib.hid (HM.out.keep (hb))
      have HP4 := Lib.hid hp
      have HPL4 := Lib.hid hpl
      clear hp hpl hw hwl hb
      clear k0 k1 k2 k3 k4 hlX
      rcases pvR_er HR4.out with he | he | he
      · subst he
        go_wp2_with fail
        go_ret
        exact ⟨rfl, HM.out.bel.alloc HM.out.bel.size _⟩
      · subst he
        go_wp2_with fail
        go_ret
        exact ⟨rfl, HM.out.bel.alloc HM.out.bel.size _⟩
      obtain ⟨hlb, hvb, hpb⟩ := pvR_0 HR4.out he
      subst he hpb
      have HAV := Lib.hid (add_vio HLxs.out HLys.out hlb hvb)
      clear hlb hvb HR4 HBO HBN
      have hnp : n1 = np4 := by rw [← HPL4.out, loadsOf_len]; exact HM.out.rs.l1.symm
      subst hnp
      clear HPL4
      go_upto_region 11 with (fail)
      obtain ⟨V4, hV4⟩ : ∃ W, W = v4.alloc (.cells #[.slice ap4 n1 cp4] 34) := ⟨_, rfl⟩
      obtain ⟨X4, hX4⟩ : ∃ W, W = v4.heap.size := ⟨_, rfl⟩
      have hb : Below v4.heap.size v4 V4 := by rw [hV4]; exact (Below.refl _ _).alloc (Nat.le_refl _) _
      have HBX4 : Hid (Own V4 X4 34 1 (fun _ => .slice ap4 n1 cp4)) := Lib.hid (by rw [hV4, hX4]; exact Own.one _ _ _)
      have HM := Lib.hid (HM.out.keep (hb))
      have HP4 := Lib.hid (HP4.out.keep hb)
      clear hb
      have HV4 := Lib.hid hV4
      have HX4 := Lib.hid hX4
      clear hV4 hX4
      obtain ⟨k0, k1, k2, k3, k4⟩ : V4.cell? ⟨X, 0, none⟩ = some (.slice a1 n1 c1) ∧ V4.cell? ⟨X, 1, none⟩ = some (.slice a2 n2 c2) ∧ V4.cell? ⟨X, 2, none⟩ = some (.slice a3 n3 c3) ∧ V4.cell? ⟨X, 3, none⟩ = some (.slice a4 n4 c4) ∧ V4.cell? ⟨X, 4, none⟩ = some (.slice a5 n5 c5) := ⟨HM.out.k0, HM.out.k1, HM.out.k2, HM.out.k3, HM.out.k4⟩
      have hlX : X < V4.heap.size := World.block_lt_of_cell? V4 _ k0
      rw [← HV4.out, ← HX4.out]
      clear HV4 HX4
      go_wp2_with fail
      refine (prProve_any a1 a2 a3 a4 a5 n1 c1 n2 c2 n3 c3 n4 c4 n5 c5 aA nB cA s xs V4 (Lib.hid HM.out.rs) (Lib.hid (HX.out.keep HM.out.bel)) HNA (by omega)).mono ?_
      rintro e v5 ⟨ap5, np5, cp5, aw5, nw5, cw5, ps5, ws5, er5, rfl, hp, hpl, hw, hwl, HR5, hb⟩
      have HM := Lib.hid (HM.out.keep (hb))
      have HP5 := Lib.hid hp
      have HPL5 := Lib.hid hpl
      have HBX4 := Lib.hid (HBX4.out.keep hb HBX4.out.lt)
      have HP4 := Lib.hid (HP4.out.keep hb)
      clear hp hpl hw hwl hb
      clear k0 k1 k2 k3 k4 hlX
      obtain ⟨hpp, hee⟩ := pvR_ok HR5.out HLxs.out HAV.out.1
      subst hpp hee
      have hnp : n1 = np5 := by rw [← HPL5.out, loadsOf_len]; exact HM.out.rs.l1.symm
      subst hnp
      clear HPL5 HR5
      go_upto_region 14 with (fail)
      obtain ⟨V5, hV5⟩ : ∃ W, W = v5.alloc (.cells #[.slice ap5 n1 cp5] 34) := ⟨_, rfl⟩
      obtain ⟨X5, hX5⟩ : ∃ W, W = v5.heap.size := ⟨_, rfl⟩
      have hb : Below v5.heap.size v5 V5 := by rw [hV5]; exact (Below.refl _ _).alloc (Nat.le_refl _) _
      have HBX5 : Hid (Own V5 X5 34 1 (fun _ => .slice ap5 n1 cp5)) := Lib.hid (by rw [hV5, hX5]; exact Own.one _ _ _)
      have HM := Lib.hid (HM.out.keep (hb))
      have HP5 := Lib.hid (HP5.out.keep hb)
      have HBX4 := Lib.hid (HBX4.out.keep hb HBX4.out.lt)
      have HP4 := Lib.hid (HP4.out.keep hb)
      clear hb
      have HV5 := Lib.hid hV5
      have HX5 := Lib.hid hX5
      clear hV5 hX5
      obtain ⟨k0, k1, k2, k3, k4⟩ : V5.cell? ⟨X, 0, none⟩ = some (.slice a1 n1 c1) ∧ V5.cell? ⟨X, 1, none⟩ = some (.slice a2 n2 c2) ∧ V5.cell? ⟨X, 2, none⟩ = some (.slice a3 n3 c3) ∧ V5.cell? ⟨X, 3, none⟩ = some (.slice a4 n4 c4) ∧ V5.cell? ⟨X, 4, none⟩ = some (.slice a5 n5 c5) := ⟨HM.out.k0, HM.out.k1, HM.out.k2, HM.out.k3, HM.out.k4⟩
      have hlX : X < V5.heap.size := World.block_lt_of_cell? V5 _ k0
      rw [← HV5.out, ← HX5.out]
      clear HV5 HX5
      go_wp2_with fail
      refine (prProve_any a1 a2 a3 a4 a5 n1 c1 n2 c2 n3 c3 n4 c4 n5 c5 aB nB cB s ys V5 (Lib.hid HM.out.rs) (Lib.hid (HY.out.keep HM.out.bel)) HNB (by omega)).mono ?_
      rintro e v6 ⟨ap6, np6, cp6, aw6, nw6, cw6, ps6, ws6, er6, rfl, hp, hpl, hw, hwl, HR6, hb⟩
      have HM := Lib.hid (HM.out.keep (hb))
      have HP6 := Lib.hid hp
      have HPL6 := Lib.hid hpl
      have HBX4 := Lib.hid (HBX4.out.keep hb HBX4.out.lt)
      have HP4 := Lib.hid (HP4.out.keep hb)
      have HBX5 := Lib.hid (HBX5.out.keep hb HBX5.out.lt)
      have HP5 := Lib.hid (HP5.out.keep hb)
      clear hp hpl hw hwl hb
      clear k0 k1 k2 k3 k4 hlX
      obtain ⟨hpp, hee⟩ := pvR_ok HR6.out HLys.out HAV.out.2
      subst hpp hee
      have hnp : n1 = np6 := by rw [← HPL6.out, loadsOf_len]; exact HM.out.rs.l1.symm
      subst hnp
      clear HPL6 HR6
      go_upto_region 15 with (fail)
      obtain ⟨V6, hV6⟩ : ∃ W, W = v6.alloc (.cells #[.slice ap6 n1 cp6] 34) := ⟨_, rfl⟩
      obtain ⟨X6, hX6⟩ : ∃ W, W = v6.heap.size := ⟨_, rfl⟩
      have hb : Below v6.heap.size v6 V6 := by rw [hV6]; exact (Below.refl _ _).alloc (Nat.le_refl _) _
      have HBX6 : Hid (Own V6 X6 34 1 (fun _ => .slice ap6 n1 cp6)) := Lib.hid (by rw [hV6, hX6]; exact Own.one _ _ _)
      have HM := Lib.hid (HM.out.keep (hb))
      have HP6 := Lib.hid (HP6.out.keep hb)
      have HBX4 := Lib.hid (HBX4.out.keep hb HBX4.out.lt)
      have HP4 := Lib.hid (HP4.out.keep hb)
      have HBX5 := Lib.hid (HBX5.out.keep hb HBX5.out.lt)
      have HP5 := Lib.hid (HP5.out.keep hb)
      clear hb
      have HV6 := Lib.hid hV6
      have HX6 := Lib.hid hX6
      clear hV6 hX6
      obtain ⟨k0, k1, k2, k3, k4⟩ : V6.cell? ⟨X, 0, none⟩ = some (.slice a1 n1 c1) ∧ V6.cell? ⟨X, 1, none⟩ = some (.slice a2 n2 c2) ∧ V6.cell? ⟨X, 2, none⟩ = some (.slice a3 n3 c3) ∧ V6.cell? ⟨X, 3, none⟩ = some (.slice a4 n4 c4) ∧ V6.cell? ⟨X, 4, none⟩ = some (.slice a5 n5 c5) := ⟨HM.out.k0, HM.out.k1, HM.out.k2, HM.out.k3, HM.out.k4⟩
      have hlX : X < V6.heap.size := World.block_lt_of_cell? V6 _ k0
      rw [← HV6.out, ← HX6.out]
      clear HV6 HX6
      have x4 : V6.cell? ⟨X4, 0, none⟩ = some (.slice ap4 n1 cp4) := HBX4.out.cell (i := 0) (by omega)
      have l4 : X4 < V6.heap.size := HBX4.out.lt
      have x5 : V6.cell? ⟨X5, 0, none⟩ = some (.slice ap5 n1 cp5) := HBX5.out.cell (i := 0) (by omega)
      have l5 : X5 < V6.heap.size := HBX5.out.lt
      have x6 : V6.cell? ⟨X6, 0, none⟩ = some (.slice ap6 n1 cp6) := HBX6.out.cell (i := 0) (by omega)
      have l6 : X6 < V6.heap.size := HBX6.out.lt
      go_upto_region 18 with (fail)
      clear k0 k1 k2 k3 k4 hlX x4 x5 x6 l4 l5 l6
      have HBL0 : Hid (Below V6.heap.size V6 V6) := Lib.hid (Below.refl _ _)
      have hn1 : n1 ≤ 16 := HNN.out.2.2.2.2
      go_loopg [102] n1 (fun g1 v102 wr => ∃ i : Nat, v102 = .int .i64 i ∧ i ≤ n1 ∧ n1 - i ≤ g1 ∧ Hid (Below V6.heap.size V6 wr))
      case atStart => exact ⟨0, by go_num, by omega, by omega, HBL0⟩
      case round =>
        clear HBL0
        obtain ⟨i, rfl, hi, hg1, HBL⟩ := hrel
        by_cases hlt : i < n1
        · have hltz : (i : Int) < (n1 : Int) := by omega
          have HIC : Hid (i < s.cons.length) := Lib.hid (by have := HNN.out; omega)
          go_upto_region 21 with (fail)
          go_loopg [105] 3 (fun g2 v105 wr => ∃ k : Nat, v105 = .int .i64 k ∧ k ≤ 3 ∧ 3 - k ≤ g2 ∧ Hid (Below V6.heap.size V6 wr))
          case atStart => exact ⟨0, by go_num, by omega, by omega, HBL⟩
          case round =>
            clear HBL
            obtain ⟨k, rfl, hk, hg2, HBL⟩ := hrel
            by_cases hkt : k < 3
            · have hktz : (k : Int) < 3 := by omega
              obtain ⟨b4, o4, e4, hb4, hc4⟩ := rd3_at (HP4.out.keep HBL.out) HIC.out hkt
              obtain ⟨b5, o5, e5, hb5, hc5⟩ := rd3_at (HP5.out.keep HBL.out) HIC.out hkt
              obtain ⟨b6, o6, e6, hb6, hc6⟩ := rd3_at (HP6.out.keep HBL.out) HIC.out hkt
              rw [load_add (loadB_iff' HLxs.out).2.1] at hc4
              have hbd5 := load_bd HLxs.out (i * 3 + k)
              have hbd6 := load_bd HLys.out (i * 3 + k)
              subst e4 e5 e6
              generalize loadS s (fI xs) s.chgs.length (i * 3 + k) = x at *
              generalize loadS s (fI ys) s.chgs.length (i * 3 + k) = y at *
              have hwi : IntKind.i64.wrap (x + y) = x + y := IntWalk.i64_in _ (by omega)
              have x4 : wr.cell? ⟨X4, 0, none⟩ = some (.slice (some ⟨b4, o4, none⟩) n1 cp4) := (HBX4.out.keep HBL.out HBX4.out.lt).cell (i := 0) (by omega)
              have l4 : X4 < wr.heap.size := (HBX4.out.keep HBL.out HBX4.out.lt).lt
              have x5 : wr.cell? ⟨X5, 0, none⟩ = some (.slice (some ⟨b5, o5, none⟩) n1 cp5) := (HBX5.out.keep HBL.out HBX5.out.lt).cell (i := 0) (by omega)
              have l5 : X5 < wr.heap.size := (HBX5.out.keep HBL.out HBX5.out.lt).lt
              have x6 : wr.cell? ⟨X6, 0, none⟩ = some (.slice (some ⟨b6, o6, none⟩) n1 cp6) := (HBX6.out.keep HBL.out HBX6.out.lt).cell (i := 0) (by omega)
              have l6 : X6 < wr.heap.size := (HBX6.out.keep HBL.out HBX6.out.lt).lt
              go_upto_region 23 with (fail)
              go_region
              go_wp2_with fail
              go_roundg (3 - (k + 1))
              case measure => omega
              case rel => exact ⟨k + 1, by go_num, by omega, by omega, Lib.hid HBL.out.drew⟩
            · have hktz : ¬ (k : Int) < 3 := by omega
              go_wp2_with fail
              go_roundg (n1 - (i + 1))
              case measure => omega
              case rel => exact ⟨i + 1, by go_num, by omega, by omega, HBL⟩
        · have hltz : ¬ (i : Int) < (n1 : Int) := by omega
          go_wp2_with fail
          go_ret
          exact ⟨rfl, HM.out.bel.trans (HBL.out.mono HM.out.bel.size)⟩
end Go.Proofs.YtpkonifeieepfaaGreat
