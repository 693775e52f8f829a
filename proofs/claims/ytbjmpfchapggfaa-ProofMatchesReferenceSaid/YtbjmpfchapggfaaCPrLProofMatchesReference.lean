/-
ProofMatchesReference, walked.
-/
import Derived.Test.YtbjmpfchapggfaaCPrLa
import Derived.Test.YtbjmpfchapggfaaCPrRe
namespace Go.Proofs.Ytbjmpfchapggfaa
open Go.RowKit
set_option linter.unusedVariables false
set_option linter.unusedSimpArgs false
theorem hex_of {s : GSite} {xs : List Int} {ps : List R3} {ws : List Int} {er : Int} (k : PvR s xs ps ws er) : ∀ t, loadB s xs = true → vioO s xs = some t → ∃ v, Sorts (keyW xs) 0 (lenW s t) (fI (memL s t)) v := by
  intro t hx h
  rcases k with ⟨a, _⟩ | ⟨_, t', a, b, c, d⟩ | ⟨_, a, _⟩
  · rw [hx] at a; cases a
  · rw [h] at a
    injection a with a
    subst a
    obtain ⟨v, h1, _⟩ := d
    exact ⟨v, h1⟩
  · rw [h] at a; cases a
theorem pv_len {s : GSite} {xs : List Int} {ps : List R3} {ws : List Int} {er : Int} (k : PvR s xs ps ws er) {np nw nA : Nat} (h1 : ps.length = np) (h2 : ws.length = nw) (h3 : xs.length = nA) (h4 : nA ≤ 40) : np ≤ 16 ∧ nw ≤ 40 := by
  rcases k with ⟨_, rfl, rfl, _⟩ | ⟨_, t, _, rfl, _, v, _, rfl⟩ | ⟨a, _, rfl, rfl, _⟩
  · simp at h1 h2; omega
  · rw [rowN_len] at h2
    simp at h1
    omega
  · rw [loadsOf_len] at h1
    simp at h2
    unfold loadB at a
    rw [Bool.and_eq_true] at a
    have := (okSB_iff.1 a.1).n2
    omega
set_option maxRecDepth 100000 in
set_option maxHeartbeats 16000000 in
theorem walk_ProofMatchesReference (a1 : Option Addr) (n1 c1 : Nat) (a2 : Option Addr) (n2 c2 : Nat) (a3 : Option Addr) (n3 c3 : Nat) (a4 : Option Addr) (n4 c4 : Nat) (a5 : Option Addr) (n5 c5 : Nat) (s : GSite) {w : World} (HS : Hid (RdSite w a1 a2 a3 a4 a5 n1 n2 n3 n4 n5 s)) (_ : WfSite s) (aA : Option Addr) (cA nA : Nat) (xs : List Int) (hX : Rd 1 encI w aA xs) (HNA : Hid (xs.length = nA)) (hnA : nA ≤ 9223372036854775807) (_ : ∀ x, x ∈ xs → wfI64 x) (aP : Option Addr) (cP nP : Nat) (ps : List R3) (hP : Rd 3 enc3 w aP ps) (HNP : Hid (ps.length = nP)) (hnP : nP ≤ 9223372036854775807) (_ : ∀ x, x ∈ ps → wf3 x) :
    Calls Try.prog 3 #[.agg #[.slice a1 n1 c1, .slice a2 n2 c2, .slice a3 n3 c3, .slice a4 n4 c4, .slice a5 n5 c5], .slice aA nA cA, .agg #[.slice aP nP cP]] w fun e w' => e = .returned (.bool true) ∧ Below w.heap.size w w' := by
  have HX := Lib.hid hX
  have HPS := Lib.hid hP
  clear hX hP
  obtain ⟨W0, hW0⟩ : ∃ W0, W0 = (w.alloc (.cells #[.slice a1 n1 c1, .slice a2 n2 c2, .slice a3 n3 c3, .slice a4 n4 c4, .slice a5 n5 c5] 28)).alloc (.cells #[.slice aP nP cP] 32) := ⟨_, rfl⟩
  have hm0 : LwM w W0 w.heap.size a1 n1 c1 a2 n2 c2 a3 n3 c3 a4 n4 c4 a5 n5 c5 s := by
    rw [hW0]
    exact (LwM.box (c1 := c1) (c2 := c2) (c3 := c3) (c4 := c4) (c5 := c5) HS.out).keep ((Below.refl _ _).alloc (Nat.le_refl _) _)
  have kp : W0.cell? ⟨w.heap.size + 1, 0, none⟩ = some (.slice aP nP cP) := by rw [hW0]; go_simp
  have HM := Lib.hid hm0
  have HW0 := Lib.hid hW0
  clear hm0 hW0
  go_enter Try.func3, Try.ntmps3
  go_wp2_with fail
  rw [← HW0.out]
  clear HW0
  obtain ⟨X, hX0⟩ : ∃ X, X = w.heap.size := ⟨_, rfl⟩
  rw [← hX0] at HM kp ⊢
  have HSZ : Hid (w.heap.size = X) := Lib.hid hX0.symm
  clear hX0
  refine (ltenHead_any W0).mono ?_
  rintro e w1 ⟨rfl, hb⟩
  have HM := Lib.hid (HM.out.keep (hb))
  have kp := ((hb).cell (p := ⟨X + 1, 0, none⟩) (World.block_lt_of_cell? _ _ kp)).trans kp
  obtain ⟨k0, k1, k2, k3, k4⟩ : w1.cell? ⟨X, 0, none⟩ = some (.slice a1 n1 c1) ∧ w1.cell? ⟨X, 1, none⟩ = some (.slice a2 n2 c2) ∧ w1.cell? ⟨X, 2, none⟩ = some (.slice a3 n3 c3) ∧ w1.cell? ⟨X, 3, none⟩ = some (.slice a4 n4 c4) ∧ w1.cell? ⟨X, 4, none⟩ = some (.slice a5 n5 c5) := ⟨HM.out.k0, HM.out.k1, HM.out.k2, HM.out.k3, HM.out.k4⟩
  have hlX : X < w1.heap.size := World.block_lt_of_cell? w1 _ k0
  have hlY : X + 1 < w1.heap.size := World.block_lt_of_cell? w1 _ kp
  clear hb
  go_wp2_with fail
  obtain ⟨W2, hW2⟩ : ∃ W2, W2 = w1.alloc (.cells #[.slice aA nA cA] 29) := ⟨_, rfl⟩
  have hb : Below w1.heap.size w1 W2 := by rw [hW2]; exact (Below.refl _ _).alloc (Nat.le_refl _) _
  have kl : W2.cell? ⟨w1.heap.size, 0, none⟩ = some (.slice aA nA cA) := by rw [hW2]; go_simp
  rw [← hW2]
  clear hW2
  have HM := Lib.hid (HM.out.keep (hb))
  have kp := ((hb).cell (p := ⟨X + 1, 0, none⟩) (World.block_lt_of_cell? _ _ kp)).trans kp
  clear k0 k1 k2 k3 k4 hlX hlY
  obtain ⟨k0, k1, k2, k3, k4⟩ : W2.cell? ⟨X, 0, none⟩ = some (.slice a1 n1 c1) ∧ W2.cell? ⟨X, 1, none⟩ = some (.slice a2 n2 c2) ∧ W2.cell? ⟨X, 2, none⟩ = some (.slice a3 n3 c3) ∧ W2.cell? ⟨X, 3, none⟩ = some (.slice a4 n4 c4) ∧ W2.cell? ⟨X, 4, none⟩ = some (.slice a5 n5 c5) := ⟨HM.out.k0, HM.out.k1, HM.out.k2, HM.out.k3, HM.out.k4⟩
  have hlX : X < W2.heap.size := World.block_lt_of_cell? W2 _ k0
  have hlY : X + 1 < W2.heap.size := World.block_lt_of_cell? W2 _ kp
  clear hb
  refine (ltenFew_any a1 a2 a3 a4 a5 n1 c1 n2 c2 n3 c3 n4 c4 n5 c5 s aP nP cP w1.heap.size aA nA cA W2 (Lib.hid HM.out.rs) kl (by omega) (by omega)).mono ?_
  rintro e w3 ⟨rfl, hb⟩
  have HM := Lib.hid (HM.out.keep (hb))
  have kp := ((hb).cell (p := ⟨X + 1, 0, none⟩) (World.block_lt_of_cell? _ _ kp)).trans kp
  clear k0 k1 k2 k3 k4 hlX hlY
  obtain ⟨k0, k1, k2, k3, k4⟩ : w3.cell? ⟨X, 0, none⟩ = some (.slice a1 n1 c1) ∧ w3.cell? ⟨X, 1, none⟩ = some (.slice a2 n2 c2) ∧ w3.cell? ⟨X, 2, none⟩ = some (.slice a3 n3 c3) ∧ w3.cell? ⟨X, 3, none⟩ = some (.slice a4 n4 c4) ∧ w3.cell? ⟨X, 4, none⟩ = some (.slice a5 n5 c5) := ⟨HM.out.k0, HM.out.k1, HM.out.k2, HM.out.k3, HM.out.k4⟩
  have hlX : X < w3.heap.size := World.block_lt_of_cell? w3 _ k0
  have hlY : X + 1 < w3.heap.size := World.block_lt_of_cell? w3 _ kp
  obtain ⟨q, hq⟩ : ∃ q, q = (decide (nA ≤ 40) && (fewS s && decide (nP ≤ 40))) := ⟨_, rfl⟩
  rw [← hq]
  have HQ := Lib.hid hq
  clear hb hq kl
  cases q
  · go_wp2_with fail
    go_ret
    exact ⟨rfl, HM.out.bel⟩
  have HQ2 : Hid (nA ≤ 40 ∧ nP ≤ 40) := Lib.hid (by
    have h := HQ.out.symm
    simp only [Bool.and_eq_true, decide_eq_true_eq] at h
    exact ⟨h.1, h.2.2⟩)
  have HQ40 : Hid (nA ≤ 40) := Lib.hid HQ2.out.1
  clear HQ
  go_wp2_with fail
  refine (prProve_any a1 a2 a3 a4 a5 n1 c1 n2 c2 n3 c3 n4 c4 n5 c5 aA nA cA s xs w3 (Lib.hid HM.out.rs) (Lib.hid (HX.out.keep HM.out.bel)) HNA (by omega)).mono ?_
  rintro e w4 ⟨ap, np, cp, aw, nw, cw, qs, ws, er, rfl, hp, hpl, hw, hwl, hR, hb⟩
  have HM := Lib.hid (HM.out.keep (hb))
  have kp := ((hb).cell (p := ⟨X + 1, 0, none⟩) (World.block_lt_of_cell? _ _ kp)).trans kp
  clear k0 k1 k2 k3 k4 hlX hlY
  obtain ⟨k0, k1, k2, k3, k4⟩ : w4.cell? ⟨X, 0, none⟩ = some (.slice a1 n1 c1) ∧ w4.cell? ⟨X, 1, none⟩ = some (.slice a2 n2 c2) ∧ w4.cell? ⟨X, 2, none⟩ = some (.slice a3 n3 c3) ∧ w4.cell? ⟨X, 3, none⟩ = some (.slice a4 n4 c4) ∧ w4.cell? ⟨X, 4, none⟩ = some (.slice a5 n5 c5) := ⟨HM.out.k0, HM.out.k1, HM.out.k2, HM.out.k3, HM.out.k4⟩
  have hlX : X < w4.heap.size := World.block_lt_of_cell? w4 _ k0
  have hlY : X + 1 < w4.heap.size := World.block_lt_of_cell? w4 _ kp
  have HR := hR
  have HQ := Lib.hid hp
  have HNQ := Lib.hid hpl
  have HWS := Lib.hid hw
  have HWL := Lib.hid hwl
  clear hb hw hwl hR hp hpl
  go_wp2_with fail
  obtain ⟨W5, hW5⟩ : ∃ W', W' = w4.alloc (.cells #[.slice ap np cp] 32) := ⟨_, rfl⟩
  have hb : Below w4.heap.size w4 W5 := by rw [hW5]; exact (Below.refl _ _).alloc (Nat.le_refl _) _
  have kq : W5.cell? ⟨w4.heap.size, 0, none⟩ = some (.slice ap np cp) := by rw [hW5]; go_simp
  rw [← hW5]
  clear hW5
  have HM := Lib.hid (HM.out.keep (hb))
  have kp := ((hb).cell (p := ⟨X + 1, 0, none⟩) (World.block_lt_of_cell? _ _ kp)).trans kp
  clear k0 k1 k2 k3 k4 hlX hlY
  obtain ⟨k0, k1, k2, k3, k4⟩ : W5.cell? ⟨X, 0, none⟩ = some (.slice a1 n1 c1) ∧ W5.cell? ⟨X, 1, none⟩ = some (.slice a2 n2 c2) ∧ W5.cell? ⟨X, 2, none⟩ = some (.slice a3 n3 c3) ∧ W5.cell? ⟨X, 3, none⟩ = some (.slice a4 n4 c4) ∧ W5.cell? ⟨X, 4, none⟩ = some (.slice a5 n5 c5) := ⟨HM.out.k0, HM.out.k1, HM.out.k2, HM.out.k3, HM.out.k4⟩
  have hlX : X < W5.heap.size := World.block_lt_of_cell? W5 _ k0
  have hlY : X + 1 < W5.heap.size := World.block_lt_of_cell? W5 _ kp
  have HQ := Lib.hid (HQ.out.keep hb)
  have HWS := Lib.hid (HWS.out.keep hb)
  clear hb
  obtain ⟨Y, hY⟩ : ∃ Y, Y = w4.heap.size := ⟨_, rfl⟩
  rw [← hY] at kq ⊢
  have HKQ := Lib.hid kq
  clear hY kq
  try go_wp2_with fail
  refine (r10Prove_any a1 a2 a3 a4 a5 n1 c1 n2 c2 n3 c3 n4 c4 n5 c5 aA nA cA s xs W5 (Lib.hid HM.out.rs) (Lib.hid (HX.out.keep HM.out.bel)) HNA (by omega) (Lib.hid (hex_of HR.out))).mono ?_
  rintro e w6 ⟨ap2, np2, cp2, aw2, nw2, cw2, qs2, ws2, er2, rfl, hp, hpl, hw, hwl, hR, hb⟩
  obtain ⟨rfl, rfl, rfl⟩ := pvR_uniq HR.out hR.out
  obtain rfl : np = np2 := by have h := HNQ.out; omega
  obtain rfl : nw = nw2 := by have h := HWL.out; omega
  have HM := Lib.hid (HM.out.keep (hb))
  have kp := ((hb).cell (p := ⟨X + 1, 0, none⟩) (World.block_lt_of_cell? _ _ kp)).trans kp
  clear k0 k1 k2 k3 k4 hlX hlY
  obtain ⟨k0, k1, k2, k3, k4⟩ : w6.cell? ⟨X, 0, none⟩ = some (.slice a1 n1 c1) ∧ w6.cell? ⟨X, 1, none⟩ = some (.slice a2 n2 c2) ∧ w6.cell? ⟨X, 2, none⟩ = some (.slice a3 n3 c3) ∧ w6.cell? ⟨X, 3, none⟩ = some (.slice a4 n4 c4) ∧ w6.cell? ⟨X, 4, none⟩ = some (.slice a5 n5 c5) := ⟨HM.out.k0, HM.out.k1, HM.out.k2, HM.out.k3, HM.out.k4⟩
  have hlX : X < w6.heap.size := World.block_lt_of_cell? w6 _ k0
  have hlY : X + 1 < w6.heap.size := World.block_lt_of_cell? w6 _ kp
  have HQ := Lib.hid (HQ.out.keep hb)
  have HWS := Lib.hid (HWS.out.keep hb)
  have HKQ := Lib.hid ((hb.cell (p := ⟨Y, 0, none⟩) (World.block_lt_of_cell? _ _ HKQ.out)).trans HKQ.out)
  have HQ2 := Lib.hid hp
  have HWS2 := Lib.hid hw
  clear hb hw hwl hR hp hpl
  go_wp2_with fail
  obtain ⟨W7, hW7⟩ : ∃ W', W' = w6.alloc (.cells #[.slice ap2 np cp2] 32) := ⟨_, rfl⟩
  have hb : Below w6.heap.size w6 W7 := by rw [hW7]; exact (Below.refl _ _).alloc (Nat.le_refl _) _
  have kr : W7.cell? ⟨w6.heap.size, 0, none⟩ = some (.slice ap2 np cp2) := by rw [hW7]; go_simp
  rw [← hW7]
  clear hW7
  have HM := Lib.hid (HM.out.keep (hb))
  have kp := ((hb).cell (p := ⟨X + 1, 0, none⟩) (World.block_lt_of_cell? _ _ kp)).trans kp
  clear k0 k1 k2 k3 k4 hlX hlY
  obtain ⟨k0, k1, k2, k3, k4⟩ : W7.cell? ⟨X, 0, none⟩ = some (.slice a1 n1 c1) ∧ W7.cell? ⟨X, 1, none⟩ = some (.slice a2 n2 c2) ∧ W7.cell? ⟨X, 2, none⟩ = some (.slice a3 n3 c3) ∧ W7.cell? ⟨X, 3, none⟩ = some (.slice a4 n4 c4) ∧ W7.cell? ⟨X, 4, none⟩ = some (.slice a5 n5 c5) := ⟨HM.out.k0, HM.out.k1, HM.out.k2, HM.out.k3, HM.out.k4⟩
  have hlX : X < W7.heap.size := World.block_lt_of_cell? W7 _ k0
  have hlY : X + 1 < W7.heap.size := World.block_lt_of_cell? W7 _ kp
  have HQ := Lib.hid (HQ.out.keep hb)
  have HWS := Lib.hid (HWS.out.keep hb)
  have HKQ := Lib.hid ((hb.cell (p := ⟨Y, 0, none⟩) (World.block_lt_of_cell? _ _ HKQ.out)).trans HKQ.out)
  have HQ2 := Lib.hid (HQ2.out.keep hb)
  have HWS2 := Lib.hid (HWS2.out.keep hb)
  clear hb
  obtain ⟨Y2, hY2⟩ : ∃ Y, Y = w6.heap.size := ⟨_, rfl⟩
  rw [← hY2] at kr ⊢
  clear hY2
  try go_wp2_with fail
  have HN16 : Hid (np ≤ 16 ∧ nw ≤ 40) := Lib.hid (pv_len HR.out HNQ.out HWL.out HNA.out HQ40.out)
  obtain ⟨z, hz⟩ : ∃ z, z = prB s xs ps := ⟨_, rfl⟩
  have HZ := Lib.hid hz.symm
  have hnp : np ≤ 16 := HN16.out.1
  have hnw : nw ≤ 40 := HN16.out.2
  have HCC := Lib.hid (And.intro k0 (And.intro k1 (And.intro k2 (And.intro k3 (And.intro k4 (And.intro kp (And.intro HKQ.out kr)))))))
  clear hz k0 k1 k2 k3 k4 kp kr HR HN16
  refine region_z (S := fun w' => Below W7.heap.size W7 w') [] (by kernel_rfl) (Below.refl _ _).drew (fun hHeld => ?_)
  obtain ⟨wd, hwd⟩ : ∃ wd, wd = W7.drew := ⟨_, rfl⟩
  rw [← hwd] at hHeld ⊢
  clear hwd
  refine wpAnyZ_take (i := 0) (v := .bool true) [] rfl (by kernel_rfl) (by kernel_rfl) (by kernel_rfl) (by kernel_rfl) (fun _ _ _ h => h) (Or.inl ⟨by kernel_rfl, fun w' hSw => ?_⟩) hHeld ?_
  · clear hHeld hSw
    go_simp
  simp only [Act.put, List.getElem_toArray, List.getElem_cons_zero, List.getElem_cons_succ, List.setIfInBounds_toArray, List.set_cons_zero, List.set_cons_succ]
  refine wpAnyZ_take (i := 1) (v := .bool true) [] rfl (by kernel_rfl) (by kernel_rfl) (by kernel_rfl) (by kernel_rfl) (fun _ _ _ h => h) (Or.inl ⟨by kernel_rfl, fun w' hSw => ?_⟩) hHeld ?_
  · clear hHeld hSw
    go_simp
  simp only [Act.put, List.getElem_toArray, List.getElem_cons_zero, List.getElem_cons_succ, List.setIfInBounds_toArray, List.set_cons_zero, List.set_cons_succ]
  refine wpAnyZ_take (i := 2) (v := .agg #[.slice ap np cp]) [] rfl (by kernel_rfl) (by kernel_rfl) (by kernel_rfl) (by kernel_rfl) (fun _ _ _ h => h) (Or.inl ⟨by kernel_rfl, fun w' hSw => ?_⟩) hHeld ?_
  · obtain ⟨j0, j1, j2, j3, j4, jp, jq, jr⟩ := HCC.out
    have kl : ∀ {p : Addr} {v : Value}, W7.cell? p = some v → w'.cell? p = some v := fun {p v} hp => (hSw.cell (World.block_lt_of_cell? W7 p hp)).trans hp
    have j0 := kl j0
    have j1 := kl j1
    have j2 := kl j2
    have j3 := kl j3
    have j4 := kl j4
    have jp := kl jp
    have jq := kl jq
    have jr := kl jr
    clear kl
    clear hHeld hSw
    go_simp
  simp only [Act.put, List.getElem_toArray, List.getElem_cons_zero, List.getElem_cons_succ, List.setIfInBounds_toArray, List.set_cons_zero, List.set_cons_succ]
  refine wpAnyZ_take (i := 3) (v := .agg #[.slice ap2 np cp2]) [] rfl (by kernel_rfl) (by kernel_rfl) (by kernel_rfl) (by kernel_rfl) (fun _ _ _ h => h) (Or.inl ⟨by kernel_rfl, fun w' hSw => ?_⟩) hHeld ?_
  · obtain ⟨j0, j1, j2, j3, j4, jp, jq, jr⟩ := HCC.out
    have kl : ∀ {p : Addr} {v : Value}, W7.cell? p = some v → w'.cell? p = some v := fun {p v} hp => (hSw.cell (World.block_lt_of_cell? W7 p hp)).trans hp
    have j0 := kl j0
    have j1 := kl j1
    have j2 := kl j2
    have j3 := kl j3
    have j4 := kl j4
    have jp := kl jp
    have jq := kl jq
    have jr := kl jr
    clear kl
    clear hHeld hSw
    go_simp
  simp only [Act.put, List.getElem_toArray, List.getElem_cons_zero, List.getElem_cons_succ, List.setIfInBounds_toArray, List.set_cons_zero, List.set_cons_succ]
  refine wpAnyZ_one (i := 4) (by kernel_rfl) rfl (fun K' hK => ?_)
  go_simp
  refine (r10Same_any ap ap2 np cp np cp2 qs qs _ (Lib.hid (HQ.out.keep hHeld)) (Lib.hid (HQ2.out.keep hHeld)) HNQ HNQ (by omega)).mono ?_
  rintro e w8 ⟨rfl, hb⟩
  rw [decide_eq_true (rfl : qs = qs)]
  refine hK.out _ _ ?_ (fun hHeld' => ?_)
  · exact hHeld.trans (hb.mono hHeld.size)
  clear hK K'
  clear hHeld hb 
  have hHeld := hHeld'
  clear hHeld'
  try simp only [Act.put, List.getElem_toArray, List.getElem_cons_zero, List.getElem_cons_succ, List.setIfInBounds_toArray, List.set_cons_zero, List.set_cons_succ]
  refine wpAnyZ_take (i := 5) (v := .bool true) [] rfl (by kernel_rfl) (by kernel_rfl) (by kernel_rfl) (by kernel_rfl) (fun _ _ _ h => h) (Or.inl ⟨by kernel_rfl, fun w' hSw => ?_⟩) hHeld ?_
  · clear hHeld hSw
    go_simp
  simp only [Act.put, List.getElem_toArray, List.getElem_cons_zero, List.getElem_cons_succ, List.setIfInBounds_toArray, List.set_cons_zero, List.set_cons_succ]
  refine wpAnyZ_take (i := 6) (v := .bool true) [] rfl (by kernel_rfl) (by kernel_rfl) (by kernel_rfl) (by kernel_rfl) (fun _ _ _ h => h) (Or.inl ⟨by kernel_rfl, fun w' hSw => ?_⟩) hHeld ?_
  · clear hHeld hSw
    go_simp
  simp only [Act.put, List.getElem_toArray, List.getElem_cons_zero, List.getElem_cons_succ, List.setIfInBounds_toArray, List.set_cons_zero, List.set_cons_succ]
  refine wpAnyZ_take (i := 7) (v := .slice aw nw cw) [] rfl (by kernel_rfl) (by kernel_rfl) (by kernel_rfl) (by kernel_rfl) (fun _ _ _ h => h) (Or.inl ⟨by kernel_rfl, fun w' hSw => ?_⟩) hHeld ?_
  · clear hHeld hSw
    go_simp
  simp only [Act.put, List.getElem_toArray, List.getElem_cons_zero, List.getElem_cons_succ, List.setIfInBounds_toArray, List.set_cons_zero, List.set_cons_succ]
  refine wpAnyZ_take (i := 8) (v := .slice aw2 nw cw2) [] rfl (by kernel_rfl) (by kernel_rfl) (by kernel_rfl) (by kernel_rfl) (fun _ _ _ h => h) (Or.inl ⟨by kernel_rfl, fun w' hSw => ?_⟩) hHeld ?_
  · clear hHeld hSw
    go_simp
  simp only [Act.put, List.getElem_toArray, List.getElem_cons_zero, List.getElem_cons_succ, List.setIfInBounds_toArray, List.set_cons_zero, List.set_cons_succ]
  refine wpAnyZ_one (i := 9) (by kernel_rfl) rfl (fun K' hK => ?_)
  go_simp
  refine (r4Ints_any aw aw2 nw cw nw cw2 ws ws _ (Lib.hid (HWS.out.keep hHeld)) (Lib.hid (HWS2.out.keep hHeld)) HWL HWL (by omega)).mono ?_
  rintro e w9 ⟨rfl, hb⟩
  rw [decide_eq_true (rfl : ws = ws)]
  refine hK.out _ _ ?_ (fun hHeld' => ?_)
  · exact hHeld.trans (hb.mono hHeld.size)
  clear hK K'
  clear hHeld hb 
  have hHeld := hHeld'
  clear hHeld'
  try simp only [Act.put, List.getElem_toArray, List.getElem_cons_zero, List.getElem_cons_succ, List.setIfInBounds_toArray, List.set_cons_zero, List.set_cons_succ]
  refine wpAnyZ_take (i := 10) (v := .bool true) [] rfl (by kernel_rfl) (by kernel_rfl) (by kernel_rfl) (by kernel_rfl) (fun _ _ _ h => h) (Or.inl ⟨by kernel_rfl, fun w' hSw => ?_⟩) hHeld ?_
  · clear hHeld hSw
    go_simp
  simp only [Act.put, List.getElem_toArray, List.getElem_cons_zero, List.getElem_cons_succ, List.setIfInBounds_toArray, List.set_cons_zero, List.set_cons_succ]
  refine wpAnyZ_take (i := 11) (v := .bool true) [] rfl (by kernel_rfl) (by kernel_rfl) (by kernel_rfl) (by kernel_rfl) (fun _ _ _ h => h) (Or.inl ⟨by kernel_rfl, fun w' hSw => ?_⟩) hHeld ?_
  · clear hHeld hSw
    go_simp
  simp only [Act.put, List.getElem_toArray, List.getElem_cons_zero, List.getElem_cons_succ, List.setIfInBounds_toArray, List.set_cons_zero, List.set_cons_succ]
  refine wpAnyZ_take (i := 12) (v := .int .i64 er) [] rfl (by kernel_rfl) (by kernel_rfl) (by kernel_rfl) (by kernel_rfl) (fun _ _ _ h => h) (Or.inl ⟨by kernel_rfl, fun w' hSw => ?_⟩) hHeld ?_
  · clear hHeld hSw
    go_simp
  simp only [Act.put, List.getElem_toArray, List.getElem_cons_zero, List.getElem_cons_succ, List.setIfInBounds_toArray, List.set_cons_zero, List.set_cons_succ]
  refine wpAnyZ_take (i := 13) (v := .int .i64 er) [] rfl (by kernel_rfl) (by kernel_rfl) (by kernel_rfl) (by kernel_rfl) (fun _ _ _ h => h) (Or.inl ⟨by kernel_rfl, fun w' hSw => ?_⟩) hHeld ?_
  · clear hHeld hSw
    go_simp
  simp only [Act.put, List.getElem_toArray, List.getElem_cons_zero, List.getElem_cons_succ, List.setIfInBounds_toArray, List.set_cons_zero, List.set_cons_succ]
  refine wpAnyZ_take (i := 14) (v := .bool true) [] rfl (by kernel_rfl) (by kernel_rfl) (by kernel_rfl) (by kernel_rfl) (fun _ _ _ h => h) (Or.inl ⟨by kernel_rfl, fun w' hSw => ?_⟩) hHeld ?_
  · clear hHeld hSw
    go_simp
  simp only [Act.put, List.getElem_toArray, List.getElem_cons_zero, List.getElem_cons_succ, List.setIfInBounds_toArray, List.set_cons_zero, List.set_cons_succ]
  refine wpAnyZ_take (i := 15) (v := .bool true) [] rfl (by kernel_rfl) (by kernel_rfl) (by kernel_rfl) (by kernel_rfl) (fun _ _ _ h => h) (Or.inl ⟨by kernel_rfl, fun w' hSw => ?_⟩) hHeld ?_
  · clear hHeld hSw
    go_simp
  simp only [Act.put, List.getElem_toArray, List.getElem_cons_zero, List.getElem_cons_succ, List.setIfInBounds_toArray, List.set_cons_zero, List.set_cons_succ]
  refine wpAnyZ_take (i := 16) (v := .bool true) [] rfl (by kernel_rfl) (by kernel_rfl) (by kernel_rfl) (by kernel_rfl) (fun _ _ _ h => h) (Or.inl ⟨by kernel_rfl, fun w' hSw => ?_⟩) hHeld ?_
  · clear hHeld hSw
    go_simp
  simp only [Act.put, List.getElem_toArray, List.getElem_cons_zero, List.getElem_cons_succ, List.setIfInBounds_toArray, List.set_cons_zero, List.set_cons_succ]
  refine wpAnyZ_take (i := 17) (v := .agg #[.slice a1 n1 c1, .slice a2 n2 c2, .slice a3 n3 c3, .slice a4 n4 c4, .slice a5 n5 c5]) [] rfl (by kernel_rfl) (by kernel_rfl) (by kernel_rfl) (by kernel_rfl) (fun _ _ _ h => h) (Or.inl ⟨by kernel_rfl, fun w' hSw => ?_⟩) hHeld ?_
  · obtain ⟨j0, j1, j2, j3, j4, jp, jq, jr⟩ := HCC.out
    have kl : ∀ {p : Addr} {v : Value}, W7.cell? p = some v → w'.cell? p = some v := fun {p v} hp => (hSw.cell (World.block_lt_of_cell? W7 p hp)).trans hp
    have j0 := kl j0
    have j1 := kl j1
    have j2 := kl j2
    have j3 := kl j3
    have j4 := kl j4
    have jp := kl jp
    have jq := kl jq
    have jr := kl jr
    clear kl
    clear hHeld hSw
    go_simp
  simp only [Act.put, List.getElem_toArray, List.getElem_cons_zero, List.getElem_cons_succ, List.setIfInBounds_toArray, List.set_cons_zero, List.set_cons_succ]
  refine wpAnyZ_take (i := 18) (v := .slice aA nA cA) [] rfl (by kernel_rfl) (by kernel_rfl) (by kernel_rfl) (by kernel_rfl) (fun _ _ _ h => h) (Or.inl ⟨by kernel_rfl, fun w' hSw => ?_⟩) hHeld ?_
  · clear hHeld hSw
    go_simp
  simp only [Act.put, List.getElem_toArray, List.getElem_cons_zero, List.getElem_cons_succ, List.setIfInBounds_toArray, List.set_cons_zero, List.set_cons_succ]
  refine wpAnyZ_take (i := 19) (v := .agg #[.slice aP nP cP]) [] rfl (by kernel_rfl) (by kernel_rfl) (by kernel_rfl) (by kernel_rfl) (fun _ _ _ h => h) (Or.inl ⟨by kernel_rfl, fun w' hSw => ?_⟩) hHeld ?_
  · obtain ⟨j0, j1, j2, j3, j4, jp, jq, jr⟩ := HCC.out
    have kl : ∀ {p : Addr} {v : Value}, W7.cell? p = some v → w'.cell? p = some v := fun {p v} hp => (hSw.cell (World.block_lt_of_cell? W7 p hp)).trans hp
    have j0 := kl j0
    have j1 := kl j1
    have j2 := kl j2
    have j3 := kl j3
    have j4 := kl j4
    have jp := kl jp
    have jq := kl jq
    have jr := kl jr
    clear kl
    clear hHeld hSw
    go_simp
  simp only [Act.put, List.getElem_toArray, List.getElem_cons_zero, List.getElem_cons_succ, List.setIfInBounds_toArray, List.set_cons_zero, List.set_cons_succ]
  refine wpAnyZ_take (i := 21) (v := .agg #[.slice a1 n1 c1, .slice a2 n2 c2, .slice a3 n3 c3, .slice a4 n4 c4, .slice a5 n5 c5]) [] rfl (by kernel_rfl) (by kernel_rfl) (by kernel_rfl) (by kernel_rfl) (fun _ _ _ h => h) (Or.inl ⟨by kernel_rfl, fun w' hSw => ?_⟩) hHeld ?_
  · obtain ⟨j0, j1, j2, j3, j4, jp, jq, jr⟩ := HCC.out
    have kl : ∀ {p : Addr} {v : Value}, W7.cell? p = some v → w'.cell? p = some v := fun {p v} hp => (hSw.cell (World.block_lt_of_cell? W7 p hp)).trans hp
    have j0 := kl j0
    have j1 := kl j1
    have j2 := kl j2
    have j3 := kl j3
    have j4 := kl j4
    have jp := kl jp
    have jq := kl jq
    have jr := kl jr
    clear kl
    clear hHeld hSw
    go_simp
  simp only [Act.put, List.getElem_toArray, List.getElem_cons_zero, List.getElem_cons_succ, List.setIfInBounds_toArray, List.set_cons_zero, List.set_cons_succ]
  refine wpAnyZ_take (i := 22) (v := .slice aA nA cA) [] rfl (by kernel_rfl) (by kernel_rfl) (by kernel_rfl) (by kernel_rfl) (fun _ _ _ h => h) (Or.inl ⟨by kernel_rfl, fun w' hSw => ?_⟩) hHeld ?_
  · clear hHeld hSw
    go_simp
  simp only [Act.put, List.getElem_toArray, List.getElem_cons_zero, List.getElem_cons_succ, List.setIfInBounds_toArray, List.set_cons_zero, List.set_cons_succ]
  refine wpAnyZ_take (i := 23) (v := .agg #[.slice aP nP cP]) [] rfl (by kernel_rfl) (by kernel_rfl) (by kernel_rfl) (by kernel_rfl) (fun _ _ _ h => h) (Or.inl ⟨by kernel_rfl, fun w' hSw => ?_⟩) hHeld ?_
  · obtain ⟨j0, j1, j2, j3, j4, jp, jq, jr⟩ := HCC.out
    have kl : ∀ {p : Addr} {v : Value}, W7.cell? p = some v → w'.cell? p = some v := fun {p v} hp => (hSw.cell (World.block_lt_of_cell? W7 p hp)).trans hp
    have j0 := kl j0
    have j1 := kl j1
    have j2 := kl j2
    have j3 := kl j3
    have j4 := kl j4
    have jp := kl jp
    have jq := kl jq
    have jr := kl jr
    clear kl
    clear hHeld hSw
    go_simp
  simp only [Act.put, List.getElem_toArray, List.getElem_cons_zero, List.getElem_cons_succ, List.setIfInBounds_toArray, List.set_cons_zero, List.set_cons_succ]
  refine wpAnyZ_one (i := 20) (by kernel_rfl) rfl (fun K' hK => ?_)
  go_simp
  refine (prCheck_any a1 a2 a3 a4 a5 n1 c1 n2 c2 n3 c3 n4 c4 n5 c5 aA nA cA s xs aP nP cP ps _ (Lib.hid (HM.out.keep hHeld).rs) (Lib.hid (HX.out.keep (HM.out.keep hHeld).bel)) HNA (by omega) (Lib.hid (HPS.out.keep (HM.out.keep hHeld).bel)) HNP).mono ?_
  rintro e w9 ⟨rfl, hb⟩
  rw [HZ.out]
  refine hK.out _ _ ?_ (fun hHeld' => ?_)
  · exact hHeld.trans (hb.mono hHeld.size)
  clear hK K'
  clear hHeld hb 
  have hHeld := hHeld'
  clear hHeld'
  try simp only [Act.put, List.getElem_toArray, List.getElem_cons_zero, List.getElem_cons_succ, List.setIfInBounds_toArray, List.set_cons_zero, List.set_cons_succ]
  refine wpAnyZ_one (i := 24) (by kernel_rfl) rfl (fun K' hK => ?_)
  go_simp
  refine (r10Check_any a1 a2 a3 a4 a5 n1 c1 n2 c2 n3 c3 n4 c4 n5 c5 aA nA cA s xs aP nP cP ps _ (Lib.hid (HM.out.keep hHeld).rs) (Lib.hid (HX.out.keep (HM.out.keep hHeld).bel)) HNA (by omega) (Lib.hid (HPS.out.keep (HM.out.keep hHeld).bel)) HNP (by omega)).mono ?_
  rintro e w9 ⟨rfl, hb⟩
  rw [HZ.out]
  refine hK.out _ _ ?_ (fun hHeld' => ?_)
  · exact hHeld.trans (hb.mono hHeld.size)
  clear hK K'
  clear hHeld hb 
  have hHeld := hHeld'
  clear hHeld'
  try simp only [Act.put, List.getElem_toArray, List.getElem_cons_zero, List.getElem_cons_succ, List.setIfInBounds_toArray, List.set_cons_zero, List.set_cons_succ]
  refine wpAnyZ_take (i := 25) (v := .bool true) [] rfl (by kernel_rfl) (by kernel_rfl) (by kernel_rfl) (by kernel_rfl) (fun _ _ _ h => h) (Or.inl ⟨by kernel_rfl, fun w' hSw => ?_⟩) hHeld ?_
  · clear hHeld hSw
    go_simp
  simp only [Act.put, List.getElem_toArray, List.getElem_cons_zero, List.getElem_cons_succ, List.setIfInBounds_toArray, List.set_cons_zero, List.set_cons_succ]
  refine wpAnyZ_take (i := 26) (v := .bool true) [] rfl (by kernel_rfl) (by kernel_rfl) (by kernel_rfl) (by kernel_rfl) (fun _ _ _ h => h) (Or.inl ⟨by kernel_rfl, fun w' hSw => ?_⟩) hHeld ?_
  · clear hHeld hSw
    go_simp
  simp only [Act.put, List.getElem_toArray, List.getElem_cons_zero, List.getElem_cons_succ, List.setIfInBounds_toArray, List.set_cons_zero, List.set_cons_succ]
  refine wpAnyZ_take (i := 27) (v := .bool true) [] rfl (by kernel_rfl) (by kernel_rfl) (by kernel_rfl) (by kernel_rfl) (fun _ _ _ h => h) (Or.inl ⟨by kernel_rfl, fun w' hSw => ?_⟩) hHeld ?_
  · clear hHeld hSw
    go_simp
  simp only [Act.put, List.getElem_toArray, List.getElem_cons_zero, List.getElem_cons_succ, List.setIfInBounds_toArray, List.set_cons_zero, List.set_cons_succ]
  refine wpAnyZ_done (by kernel_rfl) ?_ _
  go_wp2_with fail
  go_ret
  exact ⟨rfl, below_then HM.out.bel hHeld⟩
end Go.Proofs.Ytbjmpfchapggfaa
