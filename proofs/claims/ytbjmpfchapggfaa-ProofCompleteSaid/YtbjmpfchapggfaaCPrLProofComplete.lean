/-
ProofComplete, walked.
-/
import Derived.Test.YtbjmpfchapggfaaCPrLa
namespace Go.Proofs.Ytbjmpfchapggfaa
open Go.RowKit
set_option linter.unusedVariables false
set_option linter.unusedSimpArgs false
theorem prB_over {s : GSite} {xs : List Int} {ps : List R3} {t : Nat} (hx : loadB s xs = true) (h : vioO s xs = some t) : prB s xs ps = false := by
  cases e : prB s xs ps
  · rfl
  · rw [prB_sound e hx (fun i _ => Int.le_refl _)] at h
    cases h
theorem pvR_some {s : GSite} {xs : List Int} {t : Nat} (hx : loadB s xs = true) (h : vioO s xs = some t) {ps : List R3} {ws : List Int} {er : Int} (k : PvR s xs ps ws er) : ps = [] ∧ er = 13 ∧ IsWit s xs t ws := by
  rcases k with ⟨a, _⟩ | ⟨_, t', a, b, c, d⟩ | ⟨_, a, _⟩
  · rw [hx] at a; cases a
  · rw [h] at a
    injection a with a
    subst a
    exact ⟨b, c, d⟩
  · rw [h] at a; cases a
theorem pvR_none {s : GSite} {xs : List Int} (hx : loadB s xs = true) (h : vioO s xs = none) {ps : List R3} {ws : List Int} {er : Int} (k : PvR s xs ps ws er) : ps = loadsOf s xs ∧ ws = [] ∧ er = 0 := by
  rcases k with ⟨a, _⟩ | ⟨_, t', a, _⟩ | ⟨_, _, b⟩
  · rw [hx] at a; cases a
  · rw [h] at a; cases a
  · exact b
set_option maxRecDepth 100000 in
set_option maxHeartbeats 16000000 in
theorem walk_ProofComplete (a1 : Option Addr) (n1 c1 : Nat) (a2 : Option Addr) (n2 c2 : Nat) (a3 : Option Addr) (n3 c3 : Nat) (a4 : Option Addr) (n4 c4 : Nat) (a5 : Option Addr) (n5 c5 : Nat) (s : GSite) {w : World} (HS : Hid (RdSite w a1 a2 a3 a4 a5 n1 n2 n3 n4 n5 s)) (_ : WfSite s) (aA : Option Addr) (cA nA : Nat) (xs : List Int) (hX : Rd 1 encI w aA xs) (HNA : Hid (xs.length = nA)) (hnA : nA ≤ 9223372036854775807) (_ : ∀ x, x ∈ xs → wfI64 x) (aP : Option Addr) (cP nP : Nat) (ps : List R3) (hP : Rd 3 enc3 w aP ps) (HNP : Hid (ps.length = nP)) (hnP : nP ≤ 9223372036854775807) (_ : ∀ x, x ∈ ps → wf3 x) :
    Calls Try.prog 5 #[.agg #[.slice a1 n1 c1, .slice a2 n2 c2, .slice a3 n3 c3, .slice a4 n4 c4, .slice a5 n5 c5], .slice aA nA cA, .agg #[.slice aP nP cP]] w fun e w' => e = .returned (.bool true) ∧ Below w.heap.size w w' := by
  have HX := Lib.hid hX
  have HPS := Lib.hid hP
  clear hX hP
  obtain ⟨W0, hW0⟩ : ∃ W0, W0 = (w.alloc (.cells #[.slice a1 n1 c1, .slice a2 n2 c2, .slice a3 n3 c3, .slice a4 n4 c4, .slice a5 n5 c5] 28)).alloc (.cells #[.slice aP nP cP] 32) := ⟨_, rfl⟩
  have hm0 : LwM w W0 w.heap.size a1 n1 c1 a2 n2 c2 a3 n3 c3 a4 n4 c4 a5 n5 c5 s := by
    rw [hW0]
    exact (LwM.box (c1 := c1) (c2 := c2) (c3 := c3) (c4 := c4) (c5 := c5) HS.out).keep ((Below.refl _ _).alloc (Nat.le_refl _) _)
  have kp : W0.cell? ⟨w.heap.size + 1, 0, none⟩ = some (.slice aP nP cP) := by rw [hW0]; go_simp
  have HM := Lib.hid hm0
  have HW0 := Lib.hid hW0
  clear hm0 hW0
  go_enter Try.func5, Try.ntmps5
  go_wp2_with fail
  rw [← HW0.out]
  clear HW0
  obtain ⟨X, hX0⟩ : ∃ X, X = w.heap.size := ⟨_, rfl⟩
  rw [← hX0] at HM kp ⊢
  have HSZ : Hid (w.heap.size = X) := Lib.hid hX0.symm
  clear hX0
  refine (ltenHead_any W0).mono ?_
  rintro e w1 ⟨rfl, hb⟩
  have HM := Lib.hid (HM.out.keep (hb))
  have kp := ((hb).cell (p := ⟨X + 1, 0, none⟩) (World.block_lt_of_cell? _ _ kp)).trans kp
  obtain ⟨k0, k1, k2, k3, k4⟩ : w1.cell? ⟨X, 0, none⟩ = some (.slice a1 n1 c1) ∧ w1.cell? ⟨X, 1, none⟩ = some (.slice a2 n2 c2) ∧ w1.cell? ⟨X, 2, none⟩ = some (.slice a3 n3 c3) ∧ w1.cell? ⟨X, 3, none⟩ = some (.slice a4 n4 c4) ∧ w1.cell? ⟨X, 4, none⟩ = some (.slice a5 n5 c5) := ⟨HM.out.k0, HM.out.k1, HM.out.k2, HM.out.k3, HM.out.k4⟩
  have hlX : X < w1.heap.size := World.block_lt_of_cell? w1 _ k0
  have hlY : X + 1 < w1.heap.size := World.block_lt_of_cell? w1 _ kp
  clear hb
  go_wp2_with fail
  obtain ⟨W2, hW2⟩ : ∃ W2, W2 = w1.alloc (.cells #[.slice aA nA cA] 29) := ⟨_, rfl⟩
  have hb : Below w1.heap.size w1 W2 := by rw [hW2]; exact (Below.refl _ _).alloc (Nat.le_refl _) _
  have kl : W2.cell? ⟨w1.heap.size, 0, none⟩ = some (.slice aA nA cA) := by rw [hW2]; go_simp
  rw [← hW2]
  clear hW2
  have HM := Lib.hid (HM.out.keep (hb))
  have kp := ((hb).cell (p := ⟨X + 1, 0, none⟩) (World.block_lt_of_cell? _ _ kp)).trans kp
  clear k0 k1 k2 k3 k4 hlX hlY
  obtain ⟨k0, k1, k2, k3, k4⟩ : W2.cell? ⟨X, 0, none⟩ = some (.slice a1 n1 c1) ∧ W2.cell? ⟨X, 1, none⟩ = some (.slice a2 n2 c2) ∧ W2.cell? ⟨X, 2, none⟩ = some (.slice a3 n3 c3) ∧ W2.cell? ⟨X, 3, none⟩ = some (.slice a4 n4 c4) ∧ W2.cell? ⟨X, 4, none⟩ = some (.slice a5 n5 c5) := ⟨HM.out.k0, HM.out.k1, HM.out.k2, HM.out.k3, HM.out.k4⟩
  have hlX : X < W2.heap.size := World.block_lt_of_cell? W2 _ k0
  have hlY : X + 1 < W2.heap.size := World.block_lt_of_cell? W2 _ kp
  clear hb
  refine (ltenFew_any a1 a2 a3 a4 a5 n1 c1 n2 c2 n3 c3 n4 c4 n5 c5 s aP nP cP w1.heap.size aA nA cA W2 (Lib.hid HM.out.rs) kl (by omega) (by omega)).mono ?_
  rintro e w3 ⟨rfl, hb⟩
  have HM := Lib.hid (HM.out.keep (hb))
  have kp := ((hb).cell (p := ⟨X + 1, 0, none⟩) (World.block_lt_of_cell? _ _ kp)).trans kp
  clear k0 k1 k2 k3 k4 hlX hlY
  obtain ⟨k0, k1, k2, k3, k4⟩ : w3.cell? ⟨X, 0, none⟩ = some (.slice a1 n1 c1) ∧ w3.cell? ⟨X, 1, none⟩ = some (.slice a2 n2 c2) ∧ w3.cell? ⟨X, 2, none⟩ = some (.slice a3 n3 c3) ∧ w3.cell? ⟨X, 3, none⟩ = some (.slice a4 n4 c4) ∧ w3.cell? ⟨X, 4, none⟩ = some (.slice a5 n5 c5) := ⟨HM.out.k0, HM.out.k1, HM.out.k2, HM.out.k3, HM.out.k4⟩
  have hlX : X < w3.heap.size := World.block_lt_of_cell? w3 _ k0
  have hlY : X + 1 < w3.heap.size := World.block_lt_of_cell? w3 _ kp
  obtain ⟨q, hq⟩ : ∃ q, q = (decide (nA ≤ 40) && (fewS s && decide (nP ≤ 40))) := ⟨_, rfl⟩
  rw [← hq]
  have HQ := Lib.hid hq
  clear hb hq kl
  cases q
  · go_wp2_with fail
    go_ret
    exact ⟨rfl, HM.out.bel⟩
  have HQ2 : Hid (nA ≤ 40 ∧ nP ≤ 40) := Lib.hid (by
    have h := HQ.out.symm
    simp only [Bool.and_eq_true, decide_eq_true_eq] at h
    exact ⟨h.1, h.2.2⟩)
  clear HQ
  go_wp2_with fail
  refine (r4Valid_any a1 a2 a3 a4 a5 n1 c1 n2 c2 n3 c3 n4 c4 n5 c5 s w3 (Lib.hid HM.out.rs)).mono ?_
  rintro e w4 ⟨rfl, hb⟩
  have HM := Lib.hid (HM.out.keep (hb))
  have kp := ((hb).cell (p := ⟨X + 1, 0, none⟩) (World.block_lt_of_cell? _ _ kp)).trans kp
  clear k0 k1 k2 k3 k4 hlX hlY
  obtain ⟨k0, k1, k2, k3, k4⟩ : w4.cell? ⟨X, 0, none⟩ = some (.slice a1 n1 c1) ∧ w4.cell? ⟨X, 1, none⟩ = some (.slice a2 n2 c2) ∧ w4.cell? ⟨X, 2, none⟩ = some (.slice a3 n3 c3) ∧ w4.cell? ⟨X, 3, none⟩ = some (.slice a4 n4 c4) ∧ w4.cell? ⟨X, 4, none⟩ = some (.slice a5 n5 c5) := ⟨HM.out.k0, HM.out.k1, HM.out.k2, HM.out.k3, HM.out.k4⟩
  have hlX : X < w4.heap.size := World.block_lt_of_cell? w4 _ k0
  have hlY : X + 1 < w4.heap.size := World.block_lt_of_cell? w4 _ kp
  clear hb
  obtain ⟨qv, hqv⟩ : ∃ q, q = okSB keyL s := ⟨_, rfl⟩
  rw [← hqv]
  have HOKB := Lib.hid hqv
  clear hqv
  cases qv
  · go_wp2_with fail
    go_ret
    exact ⟨rfl, HM.out.bel⟩
  go_wp2_with fail
  refine (r8Currents_any a1 a2 a3 a4 a5 n1 c1 n2 c2 n3 c3 n4 c4 n5 c5 aA nA cA s xs w4 (Lib.hid HM.out.rs) (Lib.hid (HX.out.keep HM.out.bel)) HNA (by omega)).mono ?_
  rintro e w5 ⟨rfl, hb⟩
  have HM := Lib.hid (HM.out.keep (hb))
  have kp := ((hb).cell (p := ⟨X + 1, 0, none⟩) (World.block_lt_of_cell? _ _ kp)).trans kp
  clear k0 k1 k2 k3 k4 hlX hlY
  obtain ⟨k0, k1, k2, k3, k4⟩ : w5.cell? ⟨X, 0, none⟩ = some (.slice a1 n1 c1) ∧ w5.cell? ⟨X, 1, none⟩ = some (.slice a2 n2 c2) ∧ w5.cell? ⟨X, 2, none⟩ = some (.slice a3 n3 c3) ∧ w5.cell? ⟨X, 3, none⟩ = some (.slice a4 n4 c4) ∧ w5.cell? ⟨X, 4, none⟩ = some (.slice a5 n5 c5) := ⟨HM.out.k0, HM.out.k1, HM.out.k2, HM.out.k3, HM.out.k4⟩
  have hlX : X < w5.heap.size := World.block_lt_of_cell? w5 _ k0
  have hlY : X + 1 < w5.heap.size := World.block_lt_of_cell? w5 _ kp
  clear hb
  obtain ⟨qc, hqc⟩ : ∃ q, q = curB s xs := ⟨_, rfl⟩
  rw [← hqc]
  have HCUB := Lib.hid hqc
  clear hqc
  cases qc
  · go_wp2_with fail
    go_ret
    exact ⟨rfl, HM.out.bel⟩
  have HLB : Hid (loadB s xs = true) := Lib.hid (loadB_yes HOKB.out.symm HCUB.out.symm)
  have HOK : Hid (OkSite keyL s) := Lib.hid (okSB_iff.1 HOKB.out.symm)
  have HCU : Hid (xs.length = s.chgs.length ∧ ∀ i, i < xs.length → 0 ≤ fI xs i ∧ fI xs i ≤ 80) := Lib.hid (curB_iff.1 HCUB.out.symm)
  clear HOKB HCUB
  go_wp2_with fail
  refine (limCheck_any a1 a2 a3 a4 a5 n1 c1 n2 c2 n3 c3 n4 c4 n5 c5 aA nA cA s xs w5 (Lib.hid HM.out.rs) (Lib.hid (HX.out.keep HM.out.bel)) HNA (by omega)).mono ?_
  rintro e w6 ⟨rfl, hb⟩
  have HM := Lib.hid (HM.out.keep (hb))
  have kp := ((hb).cell (p := ⟨X + 1, 0, none⟩) (World.block_lt_of_cell? _ _ kp)).trans kp
  clear k0 k1 k2 k3 k4 hlX hlY
  obtain ⟨k0, k1, k2, k3, k4⟩ : w6.cell? ⟨X, 0, none⟩ = some (.slice a1 n1 c1) ∧ w6.cell? ⟨X, 1, none⟩ = some (.slice a2 n2 c2) ∧ w6.cell? ⟨X, 2, none⟩ = some (.slice a3 n3 c3) ∧ w6.cell? ⟨X, 3, none⟩ = some (.slice a4 n4 c4) ∧ w6.cell? ⟨X, 4, none⟩ = some (.slice a5 n5 c5) := ⟨HM.out.k0, HM.out.k1, HM.out.k2, HM.out.k3, HM.out.k4⟩
  have hlX : X < w6.heap.size := World.block_lt_of_cell? w6 _ k0
  have hlY : X + 1 < w6.heap.size := World.block_lt_of_cell? w6 _ kp
  clear hb
  cases hvo : vioO s xs with
  | some t =>
    have HVO := Lib.hid hvo
    rw [← hvo]
    clear hvo
    rw [HVO.out, HLB.out, show errO true = 0 from rfl, show (some t : Option Nat).isSome = true from rfl]
    rw [show vioV s xs (some t) = .agg #[.int .i64 ((t / 3 : Nat) : Int), .int .i64 ((t % 3 : Nat) : Int), .int .i64 (loadS s (fI xs) s.chgs.length t)] from rfl]
    generalize ((t / 3 : Nat) : Int) = v0
    generalize ((t % 3 : Nat) : Int) = v1
    generalize loadS s (fI xs) s.chgs.length t = v2
    go_wp2_with fail
    obtain ⟨W7, hW7⟩ : ∃ W', W' = w6.alloc (.cells #[.int .i64 v0, .int .i64 v1, .int .i64 v2] 45) := ⟨_, rfl⟩
    have hb : Below w6.heap.size w6 W7 := by rw [hW7]; exact (Below.refl _ _).alloc (Nat.le_refl _) _
    rw [← hW7]
    clear hW7
    have HM := Lib.hid (HM.out.keep (hb))
    have kp := ((hb).cell (p := ⟨X + 1, 0, none⟩) (World.block_lt_of_cell? _ _ kp)).trans kp
    clear k0 k1 k2 k3 k4 hlX hlY
    obtain ⟨k0, k1, k2, k3, k4⟩ : W7.cell? ⟨X, 0, none⟩ = some (.slice a1 n1 c1) ∧ W7.cell? ⟨X, 1, none⟩ = some (.slice a2 n2 c2) ∧ W7.cell? ⟨X, 2, none⟩ = some (.slice a3 n3 c3) ∧ W7.cell? ⟨X, 3, none⟩ = some (.slice a4 n4 c4) ∧ W7.cell? ⟨X, 4, none⟩ = some (.slice a5 n5 c5) := ⟨HM.out.k0, HM.out.k1, HM.out.k2, HM.out.k3, HM.out.k4⟩
    have hlX : X < W7.heap.size := World.block_lt_of_cell? W7 _ k0
    have hlY : X + 1 < W7.heap.size := World.block_lt_of_cell? W7 _ kp
    clear hb
    refine (prProve_any a1 a2 a3 a4 a5 n1 c1 n2 c2 n3 c3 n4 c4 n5 c5 aA nA cA s xs W7 (Lib.hid HM.out.rs) (Lib.hid (HX.out.keep HM.out.bel)) HNA (by omega)).mono ?_
    rintro e w8 ⟨ap, np, cp, aw, nw, cw, qs, ws, er, rfl, hp, hpl, hw, hwl, hR, hb⟩
    have HM := Lib.hid (HM.out.keep (hb))
    have kp := ((hb).cell (p := ⟨X + 1, 0, none⟩) (World.block_lt_of_cell? _ _ kp)).trans kp
    clear k0 k1 k2 k3 k4 hlX hlY
    obtain ⟨k0, k1, k2, k3, k4⟩ : w8.cell? ⟨X, 0, none⟩ = some (.slice a1 n1 c1) ∧ w8.cell? ⟨X, 1, none⟩ = some (.slice a2 n2 c2) ∧ w8.cell? ⟨X, 2, none⟩ = some (.slice a3 n3 c3) ∧ w8.cell? ⟨X, 3, none⟩ = some (.slice a4 n4 c4) ∧ w8.cell? ⟨X, 4, none⟩ = some (.slice a5 n5 c5) := ⟨HM.out.k0, HM.out.k1, HM.out.k2, HM.out.k3, HM.out.k4⟩
    have hlX : X < w8.heap.size := World.block_lt_of_cell? w8 _ k0
    have hlY : X + 1 < w8.heap.size := World.block_lt_of_cell? w8 _ kp
    obtain ⟨rfl, rfl, -⟩ := pvR_some HLB.out HVO.out hR.out
    obtain rfl : 0 = np := hpl
    clear hp hw hR hb
    have HF : Hid (prB s xs ps = false) := Lib.hid (prB_over HLB.out HVO.out)
    go_wp2_with fail
    obtain ⟨W9, hW9⟩ : ∃ W', W' = w8.alloc (.cells #[.slice ap 0 cp] 32) := ⟨_, rfl⟩
    have hb : Below w8.heap.size w8 W9 := by rw [hW9]; exact (Below.refl _ _).alloc (Nat.le_refl _) _
    rw [← hW9]
    clear hW9
    have HM := Lib.hid (HM.out.keep (hb))
    have kp := ((hb).cell (p := ⟨X + 1, 0, none⟩) (World.block_lt_of_cell? _ _ kp)).trans kp
    clear k0 k1 k2 k3 k4 hlX hlY
    obtain ⟨k0, k1, k2, k3, k4⟩ : W9.cell? ⟨X, 0, none⟩ = some (.slice a1 n1 c1) ∧ W9.cell? ⟨X, 1, none⟩ = some (.slice a2 n2 c2) ∧ W9.cell? ⟨X, 2, none⟩ = some (.slice a3 n3 c3) ∧ W9.cell? ⟨X, 3, none⟩ = some (.slice a4 n4 c4) ∧ W9.cell? ⟨X, 4, none⟩ = some (.slice a5 n5 c5) := ⟨HM.out.k0, HM.out.k1, HM.out.k2, HM.out.k3, HM.out.k4⟩
    have hlX : X < W9.heap.size := World.block_lt_of_cell? W9 _ k0
    have hlY : X + 1 < W9.heap.size := World.block_lt_of_cell? W9 _ kp
    clear hb
    try go_wp2_with fail
    refine (prCheck_any a1 a2 a3 a4 a5 n1 c1 n2 c2 n3 c3 n4 c4 n5 c5 aA nA cA s xs aP nP cP ps W9 (Lib.hid HM.out.rs) (Lib.hid (HX.out.keep HM.out.bel)) HNA (by omega) (Lib.hid (HPS.out.keep HM.out.bel)) HNP).mono ?_
    rintro e w10 ⟨rfl, hb⟩
    rw [HF.out]
    have HM := Lib.hid (HM.out.keep (hb))
    have kp := ((hb).cell (p := ⟨X + 1, 0, none⟩) (World.block_lt_of_cell? _ _ kp)).trans kp
    clear k0 k1 k2 k3 k4 hlX hlY
    obtain ⟨k0, k1, k2, k3, k4⟩ : w10.cell? ⟨X, 0, none⟩ = some (.slice a1 n1 c1) ∧ w10.cell? ⟨X, 1, none⟩ = some (.slice a2 n2 c2) ∧ w10.cell? ⟨X, 2, none⟩ = some (.slice a3 n3 c3) ∧ w10.cell? ⟨X, 3, none⟩ = some (.slice a4 n4 c4) ∧ w10.cell? ⟨X, 4, none⟩ = some (.slice a5 n5 c5) := ⟨HM.out.k0, HM.out.k1, HM.out.k2, HM.out.k3, HM.out.k4⟩
    have hlX : X < w10.heap.size := World.block_lt_of_cell? w10 _ k0
    have hlY : X + 1 < w10.heap.size := World.block_lt_of_cell? w10 _ kp
    clear hb
    go_wp2_with fail
    go_ret
    exact ⟨rfl, HM.out.bel⟩
  | none =>
    have HVO := Lib.hid hvo
    rw [← hvo]
    clear hvo
    rw [HVO.out, HLB.out, show errO true = 0 from rfl, show (none : Option Nat).isSome = false from rfl]
    rw [show vioV s xs none = .agg #[.int .i64 0, .int .i64 0, .int .i64 0] from rfl]
    go_wp2_with fail
    obtain ⟨W7, hW7⟩ : ∃ W', W' = w6.alloc (.cells #[.int .i64 0, .int .i64 0, .int .i64 0] 45) := ⟨_, rfl⟩
    have hb : Below w6.heap.size w6 W7 := by rw [hW7]; exact (Below.refl _ _).alloc (Nat.le_refl _) _
    rw [← hW7]
    clear hW7
    have HM := Lib.hid (HM.out.keep (hb))
    have kp := ((hb).cell (p := ⟨X + 1, 0, none⟩) (World.block_lt_of_cell? _ _ kp)).trans kp
    clear k0 k1 k2 k3 k4 hlX hlY
    obtain ⟨k0, k1, k2, k3, k4⟩ : W7.cell? ⟨X, 0, none⟩ = some (.slice a1 n1 c1) ∧ W7.cell? ⟨X, 1, none⟩ = some (.slice a2 n2 c2) ∧ W7.cell? ⟨X, 2, none⟩ = some (.slice a3 n3 c3) ∧ W7.cell? ⟨X, 3, none⟩ = some (.slice a4 n4 c4) ∧ W7.cell? ⟨X, 4, none⟩ = some (.slice a5 n5 c5) := ⟨HM.out.k0, HM.out.k1, HM.out.k2, HM.out.k3, HM.out.k4⟩
    have hlX : X < W7.heap.size := World.block_lt_of_cell? W7 _ k0
    have hlY : X + 1 < W7.heap.size := World.block_lt_of_cell? W7 _ kp
    clear hb
    refine (prProve_any a1 a2 a3 a4 a5 n1 c1 n2 c2 n3 c3 n4 c4 n5 c5 aA nA cA s xs W7 (Lib.hid HM.out.rs) (Lib.hid (HX.out.keep HM.out.bel)) HNA (by omega)).mono ?_
    rintro e w8 ⟨ap, np, cp, aw, nw, cw, qs, ws, er, rfl, hp, hpl, hw, hwl, hR, hb⟩
    have HM := Lib.hid (HM.out.keep (hb))
    have kp := ((hb).cell (p := ⟨X + 1, 0, none⟩) (World.block_lt_of_cell? _ _ kp)).trans kp
    clear k0 k1 k2 k3 k4 hlX hlY
    obtain ⟨k0, k1, k2, k3, k4⟩ : w8.cell? ⟨X, 0, none⟩ = some (.slice a1 n1 c1) ∧ w8.cell? ⟨X, 1, none⟩ = some (.slice a2 n2 c2) ∧ w8.cell? ⟨X, 2, none⟩ = some (.slice a3 n3 c3) ∧ w8.cell? ⟨X, 3, none⟩ = some (.slice a4 n4 c4) ∧ w8.cell? ⟨X, 4, none⟩ = some (.slice a5 n5 c5) := ⟨HM.out.k0, HM.out.k1, HM.out.k2, HM.out.k3, HM.out.k4⟩
    have hlX : X < w8.heap.size := World.block_lt_of_cell? w8 _ k0
    have hlY : X + 1 < w8.heap.size := World.block_lt_of_cell? w8 _ kp
    obtain ⟨rfl, rfl, rfl⟩ := pvR_none HLB.out HVO.out hR.out
    obtain rfl : 0 = nw := hwl
    have HQ := Lib.hid hp
    have HNQ := Lib.hid hpl
    clear hp hw hR hb hpl
    have HF : Hid (prB s xs (loadsOf s xs) = true) := Lib.hid (prB_loads HLB.out HVO.out)
    go_wp2_with fail
    obtain ⟨W9, hW9⟩ : ∃ W', W' = w8.alloc (.cells #[.slice ap np cp] 32) := ⟨_, rfl⟩
    have hb : Below w8.heap.size w8 W9 := by rw [hW9]; exact (Below.refl _ _).alloc (Nat.le_refl _) _
    have kq : W9.cell? ⟨w8.heap.size, 0, none⟩ = some (.slice ap np cp) := by rw [hW9]; go_simp
    rw [← hW9]
    clear hW9
    have HM := Lib.hid (HM.out.keep (hb))
    have kp := ((hb).cell (p := ⟨X + 1, 0, none⟩) (World.block_lt_of_cell? _ _ kp)).trans kp
    clear k0 k1 k2 k3 k4 hlX hlY
    obtain ⟨k0, k1, k2, k3, k4⟩ : W9.cell? ⟨X, 0, none⟩ = some (.slice a1 n1 c1) ∧ W9.cell? ⟨X, 1, none⟩ = some (.slice a2 n2 c2) ∧ W9.cell? ⟨X, 2, none⟩ = some (.slice a3 n3 c3) ∧ W9.cell? ⟨X, 3, none⟩ = some (.slice a4 n4 c4) ∧ W9.cell? ⟨X, 4, none⟩ = some (.slice a5 n5 c5) := ⟨HM.out.k0, HM.out.k1, HM.out.k2, HM.out.k3, HM.out.k4⟩
    have hlX : X < W9.heap.size := World.block_lt_of_cell? W9 _ k0
    have hlY : X + 1 < W9.heap.size := World.block_lt_of_cell? W9 _ kp
    have HQ := Lib.hid (HQ.out.keep hb)
    clear hb
    try go_wp2_with fail
    refine (prCheck_any a1 a2 a3 a4 a5 n1 c1 n2 c2 n3 c3 n4 c4 n5 c5 aA nA cA s xs ap np cp (loadsOf s xs) W9 (Lib.hid HM.out.rs) (Lib.hid (HX.out.keep HM.out.bel)) HNA (by omega) HQ HNQ).mono ?_
    rintro e w10 ⟨rfl, hb⟩
    rw [HF.out]
    have HM := Lib.hid (HM.out.keep (hb))
    have kp := ((hb).cell (p := ⟨X + 1, 0, none⟩) (World.block_lt_of_cell? _ _ kp)).trans kp
    clear k0 k1 k2 k3 k4 hlX hlY
    obtain ⟨k0, k1, k2, k3, k4⟩ : w10.cell? ⟨X, 0, none⟩ = some (.slice a1 n1 c1) ∧ w10.cell? ⟨X, 1, none⟩ = some (.slice a2 n2 c2) ∧ w10.cell? ⟨X, 2, none⟩ = some (.slice a3 n3 c3) ∧ w10.cell? ⟨X, 3, none⟩ = some (.slice a4 n4 c4) ∧ w10.cell? ⟨X, 4, none⟩ = some (.slice a5 n5 c5) := ⟨HM.out.k0, HM.out.k1, HM.out.k2, HM.out.k3, HM.out.k4⟩
    have hlX : X < w10.heap.size := World.block_lt_of_cell? w10 _ k0
    have hlY : X + 1 < w10.heap.size := World.block_lt_of_cell? w10 _ kp
    clear hb
    go_wp2_with fail
    go_ret
    exact ⟨rfl, HM.out.bel⟩
end Go.Proofs.Ytbjmpfchapggfaa
