/-
ProofSound, walked.
-/
import Derived.Test.YtbjmpfchapggfaaCPrLa
namespace Go.Proofs.Ytbjmpfchapggfaa
open Go.RowKit
set_option linter.unusedVariables false
set_option linter.unusedSimpArgs false
set_option maxRecDepth 100000 in
set_option maxHeartbeats 16000000 in
theorem walk_ProofSound (a1 : Option Addr) (n1 c1 : Nat) (a2 : Option Addr) (n2 c2 : Nat) (a3 : Option Addr) (n3 c3 : Nat) (a4 : Option Addr) (n4 c4 : Nat) (a5 : Option Addr) (n5 c5 : Nat) (s : GSite) {w : World} (HS : Hid (RdSite w a1 a2 a3 a4 a5 n1 n2 n3 n4 n5 s)) (_ : WfSite s) (aA : Option Addr) (cA nA : Nat) (xs : List Int) (hX : Rd 1 encI w aA xs) (HNA : Hid (xs.length = nA)) (hnA : nA ≤ 9223372036854775807) (_ : ∀ x, x ∈ xs → wfI64 x) (aP : Option Addr) (cP nP : Nat) (ps : List R3) (hP : Rd 3 enc3 w aP ps) (HNP : Hid (ps.length = nP)) (hnP : nP ≤ 9223372036854775807) (_ : ∀ x, x ∈ ps → wf3 x) (B1 : Option Addr) (d1 e1 : Nat) (bs : List Int) (hX1 : Rd 1 encU8 w B1 bs) (HN1 : Hid (bs.length = e1)) (he1 : e1 ≤ 9223372036854775807) (hw1 : ∀ x, x ∈ bs → (Lit.int .u8 x).wf = true) :
    Calls Try.prog 4 #[.agg #[.slice a1 n1 c1, .slice a2 n2 c2, .slice a3 n3 c3, .slice a4 n4 c4, .slice a5 n5 c5], .slice aA nA cA, .agg #[.slice aP nP cP], .slice B1 e1 d1] w fun e w' => e = .returned (.bool true) ∧ Below w.heap.size w w' := by
  have HX := Lib.hid hX
  have HPS := Lib.hid hP
  have HX1 := Lib.hid hX1
  have HW1 := Lib.hid hw1
  clear hX hP hX1 hw1
  obtain ⟨W0, hW0⟩ : ∃ W0, W0 = (w.alloc (.cells #[.slice a1 n1 c1, .slice a2 n2 c2, .slice a3 n3 c3, .slice a4 n4 c4, .slice a5 n5 c5] 28)).alloc (.cells #[.slice aP nP cP] 32) := ⟨_, rfl⟩
  have hm0 : LwM w W0 w.heap.size a1 n1 c1 a2 n2 c2 a3 n3 c3 a4 n4 c4 a5 n5 c5 s := by
    rw [hW0]
    exact (LwM.box (c1 := c1) (c2 := c2) (c3 := c3) (c4 := c4) (c5 := c5) HS.out).keep ((Below.refl _ _).alloc (Nat.le_refl _) _)
  have kp : W0.cell? ⟨w.heap.size + 1, 0, none⟩ = some (.slice aP nP cP) := by rw [hW0]; go_simp
  have HM := Lib.hid hm0
  have HW0 := Lib.hid hW0
  clear hm0 hW0
  go_enter Try.func4, Try.ntmps4
  go_wp2_with fail
  rw [← HW0.out]
  clear HW0
  obtain ⟨X, hX0⟩ : ∃ X, X = w.heap.size := ⟨_, rfl⟩
  rw [← hX0] at HM kp ⊢
  have HSZ : Hid (w.heap.size = X) := Lib.hid hX0.symm
  clear hX0
  refine (ltenHead_any W0).mono ?_
  rintro e w1 ⟨rfl, hb⟩
  have HM := Lib.hid (HM.out.keep (hb))
  have kp := ((hb).cell (p := ⟨X + 1, 0, none⟩) (World.block_lt_of_cell? _ _ kp)).trans kp
  obtain ⟨k0, k1, k2, k3, k4⟩ : w1.cell? ⟨X, 0, none⟩ = some (.slice a1 n1 c1) ∧ w1.cell? ⟨X, 1, none⟩ = some (.slice a2 n2 c2) ∧ w1.cell? ⟨X, 2, none⟩ = some (.slice a3 n3 c3) ∧ w1.cell? ⟨X, 3, none⟩ = some (.slice a4 n4 c4) ∧ w1.cell? ⟨X, 4, none⟩ = some (.slice a5 n5 c5) := ⟨HM.out.k0, HM.out.k1, HM.out.k2, HM.out.k3, HM.out.k4⟩
  have hlX : X < w1.heap.size := World.block_lt_of_cell? w1 _ k0
  have hlY : X + 1 < w1.heap.size := World.block_lt_of_cell? w1 _ kp
  clear hb
  go_wp2_with fail
  obtain ⟨W2, hW2⟩ : ∃ W2, W2 = w1.alloc (.cells #[.slice aA nA cA] 29) := ⟨_, rfl⟩
  have hb : Below w1.heap.size w1 W2 := by rw [hW2]; exact (Below.refl _ _).alloc (Nat.le_refl _) _
  have kl : W2.cell? ⟨w1.heap.size, 0, none⟩ = some (.slice aA nA cA) := by rw [hW2]; go_simp
  rw [← hW2]
  clear hW2
  have HM := Lib.hid (HM.out.keep (hb))
  have kp := ((hb).cell (p := ⟨X + 1, 0, none⟩) (World.block_lt_of_cell? _ _ kp)).trans kp
  clear k0 k1 k2 k3 k4 hlX hlY
  obtain ⟨k0, k1, k2, k3, k4⟩ : W2.cell? ⟨X, 0, none⟩ = some (.slice a1 n1 c1) ∧ W2.cell? ⟨X, 1, none⟩ = some (.slice a2 n2 c2) ∧ W2.cell? ⟨X, 2, none⟩ = some (.slice a3 n3 c3) ∧ W2.cell? ⟨X, 3, none⟩ = some (.slice a4 n4 c4) ∧ W2.cell? ⟨X, 4, none⟩ = some (.slice a5 n5 c5) := ⟨HM.out.k0, HM.out.k1, HM.out.k2, HM.out.k3, HM.out.k4⟩
  have hlX : X < W2.heap.size := World.block_lt_of_cell? W2 _ k0
  have hlY : X + 1 < W2.heap.size := World.block_lt_of_cell? W2 _ kp
  clear hb
  refine (ltenFew_any a1 a2 a3 a4 a5 n1 c1 n2 c2 n3 c3 n4 c4 n5 c5 s aP nP cP w1.heap.size aA nA cA W2 (Lib.hid HM.out.rs) kl (by omega) (by omega)).mono ?_
  rintro e w3 ⟨rfl, hb⟩
  have HM := Lib.hid (HM.out.keep (hb))
  have kp := ((hb).cell (p := ⟨X + 1, 0, none⟩) (World.block_lt_of_cell? _ _ kp)).trans kp
  clear k0 k1 k2 k3 k4 hlX hlY
  obtain ⟨k0, k1, k2, k3, k4⟩ : w3.cell? ⟨X, 0, none⟩ = some (.slice a1 n1 c1) ∧ w3.cell? ⟨X, 1, none⟩ = some (.slice a2 n2 c2) ∧ w3.cell? ⟨X, 2, none⟩ = some (.slice a3 n3 c3) ∧ w3.cell? ⟨X, 3, none⟩ = some (.slice a4 n4 c4) ∧ w3.cell? ⟨X, 4, none⟩ = some (.slice a5 n5 c5) := ⟨HM.out.k0, HM.out.k1, HM.out.k2, HM.out.k3, HM.out.k4⟩
  have hlX : X < w3.heap.size := World.block_lt_of_cell? w3 _ k0
  have hlY : X + 1 < w3.heap.size := World.block_lt_of_cell? w3 _ kp
  obtain ⟨q, hq⟩ : ∃ q, q = (decide (nA ≤ 40) && (fewS s && decide (nP ≤ 40))) := ⟨_, rfl⟩
  rw [← hq]
  have HQ := Lib.hid hq
  clear hb hq kl
  cases q
  · go_wp2_with fail
    go_ret
    exact ⟨rfl, HM.out.bel⟩
  have HQ2 : Hid (nA ≤ 40 ∧ nP ≤ 40) := Lib.hid (by
    have h := HQ.out.symm
    simp only [Bool.and_eq_true, decide_eq_true_eq] at h
    exact ⟨h.1, h.2.2⟩)
  clear HQ
  go_wp2_with fail
  refine (r4Valid_any a1 a2 a3 a4 a5 n1 c1 n2 c2 n3 c3 n4 c4 n5 c5 s w3 (Lib.hid HM.out.rs)).mono ?_
  rintro e w4 ⟨rfl, hb⟩
  have HM := Lib.hid (HM.out.keep (hb))
  have kp := ((hb).cell (p := ⟨X + 1, 0, none⟩) (World.block_lt_of_cell? _ _ kp)).trans kp
  clear k0 k1 k2 k3 k4 hlX hlY
  obtain ⟨k0, k1, k2, k3, k4⟩ : w4.cell? ⟨X, 0, none⟩ = some (.slice a1 n1 c1) ∧ w4.cell? ⟨X, 1, none⟩ = some (.slice a2 n2 c2) ∧ w4.cell? ⟨X, 2, none⟩ = some (.slice a3 n3 c3) ∧ w4.cell? ⟨X, 3, none⟩ = some (.slice a4 n4 c4) ∧ w4.cell? ⟨X, 4, none⟩ = some (.slice a5 n5 c5) := ⟨HM.out.k0, HM.out.k1, HM.out.k2, HM.out.k3, HM.out.k4⟩
  have hlX : X < w4.heap.size := World.block_lt_of_cell? w4 _ k0
  have hlY : X + 1 < w4.heap.size := World.block_lt_of_cell? w4 _ kp
  clear hb
  obtain ⟨qv, hqv⟩ : ∃ q, q = okSB keyL s := ⟨_, rfl⟩
  rw [← hqv]
  have HOKB := Lib.hid hqv
  clear hqv
  cases qv
  · go_wp2_with fail
    go_ret
    exact ⟨rfl, HM.out.bel⟩
  go_wp2_with fail
  refine (r8Currents_any a1 a2 a3 a4 a5 n1 c1 n2 c2 n3 c3 n4 c4 n5 c5 aA nA cA s xs w4 (Lib.hid HM.out.rs) (Lib.hid (HX.out.keep HM.out.bel)) HNA (by omega)).mono ?_
  rintro e w5 ⟨rfl, hb⟩
  have HM := Lib.hid (HM.out.keep (hb))
  have kp := ((hb).cell (p := ⟨X + 1, 0, none⟩) (World.block_lt_of_cell? _ _ kp)).trans kp
  clear k0 k1 k2 k3 k4 hlX hlY
  obtain ⟨k0, k1, k2, k3, k4⟩ : w5.cell? ⟨X, 0, none⟩ = some (.slice a1 n1 c1) ∧ w5.cell? ⟨X, 1, none⟩ = some (.slice a2 n2 c2) ∧ w5.cell? ⟨X, 2, none⟩ = some (.slice a3 n3 c3) ∧ w5.cell? ⟨X, 3, none⟩ = some (.slice a4 n4 c4) ∧ w5.cell? ⟨X, 4, none⟩ = some (.slice a5 n5 c5) := ⟨HM.out.k0, HM.out.k1, HM.out.k2, HM.out.k3, HM.out.k4⟩
  have hlX : X < w5.heap.size := World.block_lt_of_cell? w5 _ k0
  have hlY : X + 1 < w5.heap.size := World.block_lt_of_cell? w5 _ kp
  clear hb
  obtain ⟨qc, hqc⟩ : ∃ q, q = curB s xs := ⟨_, rfl⟩
  rw [← hqc]
  have HCUB := Lib.hid hqc
  clear hqc
  cases qc
  · go_wp2_with fail
    go_ret
    exact ⟨rfl, HM.out.bel⟩
  have HLB : Hid (loadB s xs = true) := Lib.hid (loadB_yes HOKB.out.symm HCUB.out.symm)
  have HOK : Hid (OkSite keyL s) := Lib.hid (okSB_iff.1 HOKB.out.symm)
  have HCU : Hid (xs.length = s.chgs.length ∧ ∀ i, i < xs.length → 0 ≤ fI xs i ∧ fI xs i ≤ 80) := Lib.hid (curB_iff.1 HCUB.out.symm)
  clear HOKB HCUB
  go_wp2_with fail
  refine (prCheck_any a1 a2 a3 a4 a5 n1 c1 n2 c2 n3 c3 n4 c4 n5 c5 aA nA cA s xs aP nP cP ps w5 (Lib.hid HM.out.rs) (Lib.hid (HX.out.keep HM.out.bel)) HNA (by omega) (Lib.hid (HPS.out.keep HM.out.bel)) HNP).mono ?_
  rintro e w6 ⟨rfl, hb⟩
  have HM := Lib.hid (HM.out.keep (hb))
  have kp := ((hb).cell (p := ⟨X + 1, 0, none⟩) (World.block_lt_of_cell? _ _ kp)).trans kp
  clear k0 k1 k2 k3 k4 hlX hlY
  obtain ⟨k0, k1, k2, k3, k4⟩ : w6.cell? ⟨X, 0, none⟩ = some (.slice a1 n1 c1) ∧ w6.cell? ⟨X, 1, none⟩ = some (.slice a2 n2 c2) ∧ w6.cell? ⟨X, 2, none⟩ = some (.slice a3 n3 c3) ∧ w6.cell? ⟨X, 3, none⟩ = some (.slice a4 n4 c4) ∧ w6.cell? ⟨X, 4, none⟩ = some (.slice a5 n5 c5) := ⟨HM.out.k0, HM.out.k1, HM.out.k2, HM.out.k3, HM.out.k4⟩
  have hlX : X < w6.heap.size := World.block_lt_of_cell? w6 _ k0
  have hlY : X + 1 < w6.heap.size := World.block_lt_of_cell? w6 _ kp
  clear hb
  obtain ⟨qp, hqp⟩ : ∃ q, q = prB s xs ps := ⟨_, rfl⟩
  rw [← hqp]
  have HPR := Lib.hid hqp
  clear hqp
  cases qp
  · go_wp2_with fail
    go_ret
    exact ⟨rfl, HM.out.bel⟩
  have hnA : nA ≤ 40 := HQ2.out.1
  have HX6 := Lib.hid (HX.out.keep HM.out.bel)
  have HY6 := Lib.hid (HX1.out.keep HM.out.bel)
  have HXB : Hid (∀ i, 0 ≤ fI xs i ∧ fI xs i ≤ 80) := Lib.hid (cur_all HCU.out)
  have HBB : Hid (∀ i, 0 ≤ fI bs i ∧ fI bs i ≤ 255) := Lib.hid (u8_bdN HW1.out)
  have HLY : Hid (loadB s (rowN (belF xs bs) nA) = true) := Lib.hid (loadB_yes (okSB_iff.2 HOK.out) (bel_cur HNA.out HCU.out))
  have HVN : Hid (vioO s (rowN (belF xs bs) nA) = none) := Lib.hid (prB_sound HPR.out.symm HLY.out (bel_le HNA.out HCU.out))
  go_upto_region 4 with (fail)
  go_cut [11, 12] (fun v11 v12 wx => v11 = .bool false ∧ v12 = .int .i64 0 ∧ Hid (Below w6.heap.size w6 wx))
  case first =>
    refine region_z (S := fun w' => Below w6.heap.size w6 w') [] (by kernel_rfl) (Below.refl _ _).drew (fun hHeld => ?_)
    obtain ⟨wd, hwd⟩ : ∃ wd, wd = w6.drew := ⟨_, rfl⟩
    rw [← hwd] at hHeld ⊢
    clear hwd
    refine wpAnyZ_take (i := 0) (v := .agg #[.slice a1 n1 c1, .slice a2 n2 c2, .slice a3 n3 c3, .slice a4 n4 c4, .slice a5 n5 c5]) [] rfl (by kernel_rfl) (by kernel_rfl) (by kernel_rfl) (by kernel_rfl) (fun _ _ _ h => h) (Or.inl ⟨by kernel_rfl, fun w' hSw => ?_⟩) hHeld ?_
    · have s0 := (HM.out.keep hSw).k0
      have s1 := (HM.out.keep hSw).k1
      have s2 := (HM.out.keep hSw).k2
      have s3 := (HM.out.keep hSw).k3
      have s4 := (HM.out.keep hSw).k4
      clear hHeld hSw
      go_simp
    simp only [Act.put, List.getElem_toArray, List.getElem_cons_zero, List.getElem_cons_succ, List.setIfInBounds_toArray, List.set_cons_zero, List.set_cons_succ]
    refine wpAnyZ_take (i := 1) (v := .slice aA nA cA) [] rfl (by kernel_rfl) (by kernel_rfl) (by kernel_rfl) (by kernel_rfl) (fun _ _ _ h => h) (Or.inl ⟨by kernel_rfl, fun w' hSw => ?_⟩) hHeld ?_
    · clear hHeld hSw
      go_simp
    simp only [Act.put, List.getElem_toArray, List.getElem_cons_zero, List.getElem_cons_succ, List.setIfInBounds_toArray, List.set_cons_zero, List.set_cons_succ]
    refine wpAnyZ_take (i := 2) (v := .slice B1 e1 d1) [] rfl (by kernel_rfl) (by kernel_rfl) (by kernel_rfl) (by kernel_rfl) (fun _ _ _ h => h) (Or.inl ⟨by kernel_rfl, fun w' hSw => ?_⟩) hHeld ?_
    · clear hHeld hSw
      go_simp
    simp only [Act.put, List.getElem_toArray, List.getElem_cons_zero, List.getElem_cons_succ, List.setIfInBounds_toArray, List.set_cons_zero, List.set_cons_succ]
    refine wpAnyZ_two (i := 3) (k := 9) (by kernel_rfl) rfl rfl (fun K' hK => ?_) (fun K' hK => ?_)
    · go_simp
      refine (ltenBelow_any aA nA cA xs B1 e1 d1 bs _ (Lib.hid (HX6.out.keep hHeld)) HNA (by omega) HXB (Lib.hid (HY6.out.keep hHeld)) HN1 HBB).mono ?_
      rintro e wb ⟨aY, cY, rfl, hy, hb⟩
      have HY := Lib.hid hy
      clear hy
      refine hK.out _ _ ?_ (fun hHeld' => ?_)
      · exact hHeld.trans (hb.mono hHeld.size)
      clear hK K'
      clear hHeld hb 
      have hHeld := hHeld'
      clear hHeld'
      try simp only [Act.put, List.getElem_toArray, List.getElem_cons_zero, List.getElem_cons_succ, List.setIfInBounds_toArray, List.set_cons_zero, List.set_cons_succ]
      refine wpAnyZ_two (i := 4) (k := 9) (by kernel_rfl) rfl rfl (fun K' hK => ?_) (fun K' hK => ?_)
      · go_simp
        refine (limCheck_any a1 a2 a3 a4 a5 n1 c1 n2 c2 n3 c3 n4 c4 n5 c5 aY nA cY s (rowN (belF xs bs) nA) _ (Lib.hid (HM.out.keep hHeld).rs) HY (Lib.hid (rowN_len _ _)) (by omega)).mono ?_
        rintro e wk ⟨rfl, hb⟩
        rw [HVN.out, HLY.out, show vioV s (rowN (belF xs bs) nA) none = .agg #[.int .i64 0, .int .i64 0, .int .i64 0] from rfl, show errO true = 0 from rfl, show (none : Option Nat).isSome = false from rfl]
        refine hK.out _ _ ?_ (fun hHeld' => ?_)
        · exact hHeld.trans (hb.mono hHeld.size)
        clear hK K'
        have HY := Lib.hid (HY.out.keep hb)
        clear hHeld hb 
        have hHeld := hHeld'
        clear hHeld'
        try simp only [Act.put, List.getElem_toArray, List.getElem_cons_zero, List.getElem_cons_succ, List.setIfInBounds_toArray, List.set_cons_zero, List.set_cons_succ]
        refine wpAnyZ_take (i := 5) (v := .tuple #[.agg #[.int .i64 0, .int .i64 0, .int .i64 0], .bool false, .int .i64 0]) [] rfl (by kernel_rfl) (by kernel_rfl) (by kernel_rfl) (by kernel_rfl) (fun _ _ _ h => h) (Or.inl ⟨by kernel_rfl, fun w' hSw => ?_⟩) hHeld ?_
        · clear hHeld hSw
          go_simp
        simp only [Act.put, List.getElem_toArray, List.getElem_cons_zero, List.getElem_cons_succ, List.setIfInBounds_toArray, List.set_cons_zero, List.set_cons_succ]
        refine wpAnyZ_take (i := 6) (v := .agg #[.int .i64 0, .int .i64 0, .int .i64 0]) [] rfl (by kernel_rfl) (by kernel_rfl) (by kernel_rfl) (by kernel_rfl) (fun _ _ _ h => h) (Or.inl ⟨by kernel_rfl, fun w' hSw => ?_⟩) hHeld ?_
        · clear hHeld hSw
          go_simp
        simp only [Act.put, List.getElem_toArray, List.getElem_cons_zero, List.getElem_cons_succ, List.setIfInBounds_toArray, List.set_cons_zero, List.set_cons_succ]
        refine wpAnyZ_take (i := 7) (v := .bool false) [] rfl (by kernel_rfl) (by kernel_rfl) (by kernel_rfl) (by kernel_rfl) (fun _ _ _ h => h) (Or.inl ⟨by kernel_rfl, fun w' hSw => ?_⟩) hHeld ?_
        · clear hHeld hSw
          go_simp
        simp only [Act.put, List.getElem_toArray, List.getElem_cons_zero, List.getElem_cons_succ, List.setIfInBounds_toArray, List.set_cons_zero, List.set_cons_succ]
        refine wpAnyZ_take (i := 8) (v := .int .i64 0) [] rfl (by kernel_rfl) (by kernel_rfl) (by kernel_rfl) (by kernel_rfl) (fun _ _ _ h => h) (Or.inl ⟨by kernel_rfl, fun w' hSw => ?_⟩) hHeld ?_
        · clear hHeld hSw
          go_simp
        simp only [Act.put, List.getElem_toArray, List.getElem_cons_zero, List.getElem_cons_succ, List.setIfInBounds_toArray, List.set_cons_zero, List.set_cons_succ]
        refine wpAnyZ_one (i := 9) (by kernel_rfl) rfl (fun K' hK => ?_)
        have HY := Lib.hid (HY.out.keep ((Below.refl _ _).alloc (Nat.le_refl _) (.cells #[.int .i64 0, .int .i64 0, .int .i64 0] 45)))
        go_simp
        refine hK.out _ _ ?_ (fun hHeld' => ?_)
        · exact hHeld.alloc hHeld.size _
        clear hK K'
        have GG0 := hHeld.size
        clear hHeld
        have hHeld := hHeld'
        clear hHeld'
        try simp only [Act.put, List.getElem_toArray, List.getElem_cons_zero, List.getElem_cons_succ, List.setIfInBounds_toArray, List.set_cons_zero, List.set_cons_succ]
        obtain ⟨WA, G, OG, GG, HWA⟩ : ∃ WA G, Hid (WA.heap[G]? = some (Obj.cells #[.int .i64 0, .int .i64 0, .int .i64 0] 45)) ∧ w6.heap.size ≤ G ∧ Hid (WA = wk.alloc (.cells #[.int .i64 0, .int .i64 0, .int .i64 0] 45) ∧ G = wk.heap.size) := ⟨_, _, Lib.hid (alloc_obj _ _), GG0, Lib.hid ⟨rfl, rfl⟩⟩
        rw [← HWA.out.1] at hHeld HY ⊢
        rw [← HWA.out.2]
        clear GG0 HWA
        refine wpAnyZ_one (i := 10) (by kernel_rfl) rfl (fun K' hK => ?_)
        obtain ⟨c0, c1, c2, f0, f1, f2⟩ := box3 OG.out
        go_simp
        refine hK.out _ _ ?_ (fun hHeld' => ?_)
        · exact ((hHeld.setCell (p := ⟨G, 0, none⟩) GG _).setCell (p := ⟨G, 1, none⟩) GG _).setCell (p := ⟨G, 2, none⟩) GG _
        clear hK K' hHeld c0 c1 c2 f0 f1 f2 OG
        have hHeld := hHeld'
        clear hHeld'
        try simp only [Act.put, List.getElem_toArray, List.getElem_cons_zero, List.getElem_cons_succ, List.setIfInBounds_toArray, List.set_cons_zero, List.set_cons_succ]
        refine wpAnyZ_take (i := 11) (v := .bool false) [] rfl (by kernel_rfl) (by kernel_rfl) (by kernel_rfl) (by kernel_rfl) (fun _ _ _ h => h) (Or.inl ⟨by kernel_rfl, fun w' hSw => ?_⟩) hHeld ?_
        · clear hHeld hSw
          go_simp
        simp only [Act.put, List.getElem_toArray, List.getElem_cons_zero, List.getElem_cons_succ, List.setIfInBounds_toArray, List.set_cons_zero, List.set_cons_succ]
        refine wpAnyZ_take (i := 12) (v := .int .i64 0) [] rfl (by kernel_rfl) (by kernel_rfl) (by kernel_rfl) (by kernel_rfl) (fun _ _ _ h => h) (Or.inl ⟨by kernel_rfl, fun w' hSw => ?_⟩) hHeld ?_
        · clear hHeld hSw
          go_simp
        simp only [Act.put, List.getElem_toArray, List.getElem_cons_zero, List.getElem_cons_succ, List.setIfInBounds_toArray, List.set_cons_zero, List.set_cons_succ]
        refine wpAnyZ_done (by kernel_rfl) ?_ _
        go_wp2_with fail
        go_meet
        exact ⟨rfl, rfl, Lib.hid hHeld⟩
      · have HY := Lib.hid (HY.out.keep ((Below.refl _ _).alloc (Nat.le_refl _) (.cells #[.int .i64 0, .int .i64 0, .int .i64 0] 45)))
        go_simp
        refine hK.out _ _ ?_ (fun hHeld' => ?_)
        · exact hHeld.alloc hHeld.size _
        clear hK K'
        have GG0 := hHeld.size
        clear hHeld
        have hHeld := hHeld'
        clear hHeld'
        try simp only [Act.put, List.getElem_toArray, List.getElem_cons_zero, List.getElem_cons_succ, List.setIfInBounds_toArray, List.set_cons_zero, List.set_cons_succ]
        obtain ⟨WA, G, OG, GG, HWA⟩ : ∃ WA G, Hid (WA.heap[G]? = some (Obj.cells #[.int .i64 0, .int .i64 0, .int .i64 0] 45)) ∧ w6.heap.size ≤ G ∧ Hid (WA = wb.alloc (.cells #[.int .i64 0, .int .i64 0, .int .i64 0] 45) ∧ G = wb.heap.size) := ⟨_, _, Lib.hid (alloc_obj _ _), GG0, Lib.hid ⟨rfl, rfl⟩⟩
        rw [← HWA.out.1] at hHeld HY ⊢
        rw [← HWA.out.2]
        clear GG0 HWA
        refine wpAnyZ_one (i := 4) (by kernel_rfl) rfl (fun K' hK => ?_)
        go_simp
        refine (limCheck_any a1 a2 a3 a4 a5 n1 c1 n2 c2 n3 c3 n4 c4 n5 c5 aY nA cY s (rowN (belF xs bs) nA) _ (Lib.hid (HM.out.keep hHeld).rs) HY (Lib.hid (rowN_len _ _)) (by omega)).mono ?_
        rintro e wk ⟨rfl, hb⟩
        rw [HVN.out, HLY.out, show vioV s (rowN (belF xs bs) nA) none = .agg #[.int .i64 0, .int .i64 0, .int .i64 0] from rfl, show errO true = 0 from rfl, show (none : Option Nat).isSome = false from rfl]
        refine hK.out _ _ ?_ (fun hHeld' => ?_)
        · exact hHeld.trans (hb.mono hHeld.size)
        clear hK K'
        have OG := Lib.hid (hb_obj hb OG.out)
        have HY := Lib.hid (HY.out.keep hb)
        clear hHeld hb 
        have hHeld := hHeld'
        clear hHeld'
        try simp only [Act.put, List.getElem_toArray, List.getElem_cons_zero, List.getElem_cons_succ, List.setIfInBounds_toArray, List.set_cons_zero, List.set_cons_succ]
        refine wpAnyZ_take (i := 5) (v := .tuple #[.agg #[.int .i64 0, .int .i64 0, .int .i64 0], .bool false, .int .i64 0]) [] rfl (by kernel_rfl) (by kernel_rfl) (by kernel_rfl) (by kernel_rfl) (fun _ _ _ h => h) (Or.inl ⟨by kernel_rfl, fun w' hSw => ?_⟩) hHeld ?_
        · clear hHeld hSw
          go_simp
        simp only [Act.put, List.getElem_toArray, List.getElem_cons_zero, List.getElem_cons_succ, List.setIfInBounds_toArray, List.set_cons_zero, List.set_cons_succ]
        refine wpAnyZ_take (i := 6) (v := .agg #[.int .i64 0, .int .i64 0, .int .i64 0]) [] rfl (by kernel_rfl) (by kernel_rfl) (by kernel_rfl) (by kernel_rfl) (fun _ _ _ h => h) (Or.inl ⟨by kernel_rfl, fun w' hSw => ?_⟩) hHeld ?_
        · clear hHeld hSw
          go_simp
        simp only [Act.put, List.getElem_toArray, List.getElem_cons_zero, List.getElem_cons_succ, List.setIfInBounds_toArray, List.set_cons_zero, List.set_cons_succ]
        refine wpAnyZ_take (i := 7) (v := .bool false) [] rfl (by kernel_rfl) (by kernel_rfl) (by kernel_rfl) (by kernel_rfl) (fun _ _ _ h => h) (Or.inl ⟨by kernel_rfl, fun w' hSw => ?_⟩) hHeld ?_
        · clear hHeld hSw
          go_simp
        simp only [Act.put, List.getElem_toArray, List.getElem_cons_zero, List.getElem_cons_succ, List.setIfInBounds_toArray, List.set_cons_zero, List.set_cons_succ]
        refine wpAnyZ_take (i := 8) (v := .int .i64 0) [] rfl (by kernel_rfl) (by kernel_rfl) (by kernel_rfl) (by kernel_rfl) (fun _ _ _ h => h) (Or.inl ⟨by kernel_rfl, fun w' hSw => ?_⟩) hHeld ?_
        · clear hHeld hSw
          go_simp
        simp only [Act.put, List.getElem_toArray, List.getElem_cons_zero, List.getElem_cons_succ, List.setIfInBounds_toArray, List.set_cons_zero, List.set_cons_succ]
        refine wpAnyZ_one (i := 10) (by kernel_rfl) rfl (fun K' hK => ?_)
        obtain ⟨c0, c1, c2, f0, f1, f2⟩ := box3 OG.out
        go_simp
        refine hK.out _ _ ?_ (fun hHeld' => ?_)
        · exact ((hHeld.setCell (p := ⟨G, 0, none⟩) GG _).setCell (p := ⟨G, 1, none⟩) GG _).setCell (p := ⟨G, 2, none⟩) GG _
        clear hK K' hHeld c0 c1 c2 f0 f1 f2 OG
        have hHeld := hHeld'
        clear hHeld'
        try simp only [Act.put, List.getElem_toArray, List.getElem_cons_zero, List.getElem_cons_succ, List.setIfInBounds_toArray, List.set_cons_zero, List.set_cons_succ]
        refine wpAnyZ_take (i := 11) (v := .bool false) [] rfl (by kernel_rfl) (by kernel_rfl) (by kernel_rfl) (by kernel_rfl) (fun _ _ _ h => h) (Or.inl ⟨by kernel_rfl, fun w' hSw => ?_⟩) hHeld ?_
        · clear hHeld hSw
          go_simp
        simp only [Act.put, List.getElem_toArray, List.getElem_cons_zero, List.getElem_cons_succ, List.setIfInBounds_toArray, List.set_cons_zero, List.set_cons_succ]
        refine wpAnyZ_take (i := 12) (v := .int .i64 0) [] rfl (by kernel_rfl) (by kernel_rfl) (by kernel_rfl) (by kernel_rfl) (fun _ _ _ h => h) (Or.inl ⟨by kernel_rfl, fun w' hSw => ?_⟩) hHeld ?_
        · clear hHeld hSw
          go_simp
        simp only [Act.put, List.getElem_toArray, List.getElem_cons_zero, List.getElem_cons_succ, List.setIfInBounds_toArray, List.set_cons_zero, List.set_cons_succ]
        refine wpAnyZ_done (by kernel_rfl) ?_ _
        go_wp2_with fail
        go_meet
        exact ⟨rfl, rfl, Lib.hid hHeld⟩
    · go_simp
      refine hK.out _ _ ?_ (fun hHeld' => ?_)
      · exact hHeld.alloc hHeld.size _
      clear hK K'
      have GG0 := hHeld.size
      clear hHeld
      have hHeld := hHeld'
      clear hHeld'
      try simp only [Act.put, List.getElem_toArray, List.getElem_cons_zero, List.getElem_cons_succ, List.setIfInBounds_toArray, List.set_cons_zero, List.set_cons_succ]
      obtain ⟨WA, G, OG, GG, HWA⟩ : ∃ WA G, Hid (WA.heap[G]? = some (Obj.cells #[.int .i64 0, .int .i64 0, .int .i64 0] 45)) ∧ w6.heap.size ≤ G ∧ Hid (WA = wd.alloc (.cells #[.int .i64 0, .int .i64 0, .int .i64 0] 45) ∧ G = wd.heap.size) := ⟨_, _, Lib.hid (alloc_obj _ _), GG0, Lib.hid ⟨rfl, rfl⟩⟩
      rw [← HWA.out.1] at hHeld  ⊢
      rw [← HWA.out.2]
      clear GG0 HWA
      refine wpAnyZ_one (i := 3) (by kernel_rfl) rfl (fun K' hK => ?_)
      go_simp
      refine (ltenBelow_any aA nA cA xs B1 e1 d1 bs _ (Lib.hid (HX6.out.keep hHeld)) HNA (by omega) HXB (Lib.hid (HY6.out.keep hHeld)) HN1 HBB).mono ?_
      rintro e wb ⟨aY, cY, rfl, hy, hb⟩
      have HY := Lib.hid hy
      clear hy
      refine hK.out _ _ ?_ (fun hHeld' => ?_)
      · exact hHeld.trans (hb.mono hHeld.size)
      clear hK K'
      have OG := Lib.hid (hb_obj hb OG.out)
      clear hHeld hb 
      have hHeld := hHeld'
      clear hHeld'
      try simp only [Act.put, List.getElem_toArray, List.getElem_cons_zero, List.getElem_cons_succ, List.setIfInBounds_toArray, List.set_cons_zero, List.set_cons_succ]
      refine wpAnyZ_one (i := 4) (by kernel_rfl) rfl (fun K' hK => ?_)
      go_simp
      refine (limCheck_any a1 a2 a3 a4 a5 n1 c1 n2 c2 n3 c3 n4 c4 n5 c5 aY nA cY s (rowN (belF xs bs) nA) _ (Lib.hid (HM.out.keep hHeld).rs) HY (Lib.hid (rowN_len _ _)) (by omega)).mono ?_
      rintro e wk ⟨rfl, hb⟩
      rw [HVN.out, HLY.out, show vioV s (rowN (belF xs bs) nA) none = .agg #[.int .i64 0, .int .i64 0, .int .i64 0] from rfl, show errO true = 0 from rfl, show (none : Option Nat).isSome = false from rfl]
      refine hK.out _ _ ?_ (fun hHeld' => ?_)
      · exact hHeld.trans (hb.mono hHeld.size)
      clear hK K'
      have OG := Lib.hid (hb_obj hb OG.out)
      have HY := Lib.hid (HY.out.keep hb)
      clear hHeld hb 
      have hHeld := hHeld'
      clear hHeld'
      try simp only [Act.put, List.getElem_toArray, List.getElem_cons_zero, List.getElem_cons_succ, List.setIfInBounds_toArray, List.set_cons_zero, List.set_cons_succ]
      refine wpAnyZ_take (i := 5) (v := .tuple #[.agg #[.int .i64 0, .int .i64 0, .int .i64 0], .bool false, .int .i64 0]) [] rfl (by kernel_rfl) (by kernel_rfl) (by kernel_rfl) (by kernel_rfl) (fun _ _ _ h => h) (Or.inl ⟨by kernel_rfl, fun w' hSw => ?_⟩) hHeld ?_
      · clear hHeld hSw
        go_simp
      simp only [Act.put, List.getElem_toArray, List.getElem_cons_zero, List.getElem_cons_succ, List.setIfInBounds_toArray, List.set_cons_zero, List.set_cons_succ]
      refine wpAnyZ_take (i := 6) (v := .agg #[.int .i64 0, .int .i64 0, .int .i64 0]) [] rfl (by kernel_rfl) (by kernel_rfl) (by kernel_rfl) (by kernel_rfl) (fun _ _ _ h => h) (Or.inl ⟨by kernel_rfl, fun w' hSw => ?_⟩) hHeld ?_
      · clear hHeld hSw
        go_simp
      simp only [Act.put, List.getElem_toArray, List.getElem_cons_zero, List.getElem_cons_succ, List.setIfInBounds_toArray, List.set_cons_zero, List.set_cons_succ]
      refine wpAnyZ_take (i := 7) (v := .bool false) [] rfl (by kernel_rfl) (by kernel_rfl) (by kernel_rfl) (by kernel_rfl) (fun _ _ _ h => h) (Or.inl ⟨by kernel_rfl, fun w' hSw => ?_⟩) hHeld ?_
      · clear hHeld hSw
        go_simp
      simp only [Act.put, List.getElem_toArray, List.getElem_cons_zero, List.getElem_cons_succ, List.setIfInBounds_toArray, List.set_cons_zero, List.set_cons_succ]
      refine wpAnyZ_take (i := 8) (v := .int .i64 0) [] rfl (by kernel_rfl) (by kernel_rfl) (by kernel_rfl) (by kernel_rfl) (fun _ _ _ h => h) (Or.inl ⟨by kernel_rfl, fun w' hSw => ?_⟩) hHeld ?_
      · clear hHeld hSw
        go_simp
      simp only [Act.put, List.getElem_toArray, List.getElem_cons_zero, List.getElem_cons_succ, List.setIfInBounds_toArray, List.set_cons_zero, List.set_cons_succ]
      refine wpAnyZ_one (i := 10) (by kernel_rfl) rfl (fun K' hK => ?_)
      obtain ⟨c0, c1, c2, f0, f1, f2⟩ := box3 OG.out
      go_simp
      refine hK.out _ _ ?_ (fun hHeld' => ?_)
      · exact ((hHeld.setCell (p := ⟨G, 0, none⟩) GG _).setCell (p := ⟨G, 1, none⟩) GG _).setCell (p := ⟨G, 2, none⟩) GG _
      clear hK K' hHeld c0 c1 c2 f0 f1 f2 OG
      have hHeld := hHeld'
      clear hHeld'
      try simp only [Act.put, List.getElem_toArray, List.getElem_cons_zero, List.getElem_cons_succ, List.setIfInBounds_toArray, List.set_cons_zero, List.set_cons_succ]
      refine wpAnyZ_take (i := 11) (v := .bool false) [] rfl (by kernel_rfl) (by kernel_rfl) (by kernel_rfl) (by kernel_rfl) (fun _ _ _ h => h) (Or.inl ⟨by kernel_rfl, fun w' hSw => ?_⟩) hHeld ?_
      · clear hHeld hSw
        go_simp
      simp only [Act.put, List.getElem_toArray, List.getElem_cons_zero, List.getElem_cons_succ, List.setIfInBounds_toArray, List.set_cons_zero, List.set_cons_succ]
      refine wpAnyZ_take (i := 12) (v := .int .i64 0) [] rfl (by kernel_rfl) (by kernel_rfl) (by kernel_rfl) (by kernel_rfl) (fun _ _ _ h => h) (Or.inl ⟨by kernel_rfl, fun w' hSw => ?_⟩) hHeld ?_
      · clear hHeld hSw
        go_simp
      simp only [Act.put, List.getElem_toArray, List.getElem_cons_zero, List.getElem_cons_succ, List.setIfInBounds_toArray, List.set_cons_zero, List.set_cons_succ]
      refine wpAnyZ_done (by kernel_rfl) ?_ _
      go_wp2_with fail
      go_meet
      exact ⟨rfl, rfl, Lib.hid hHeld⟩
  case rest =>
    obtain ⟨rfl, rfl, HBC⟩ := hcut
    have HM := Lib.hid (HM.out.keep HBC.out)
    go_wp2_with fail
    go_ret
    exact ⟨rfl, HM.out.bel⟩
end Go.Proofs.Ytbjmpfchapggfaa
