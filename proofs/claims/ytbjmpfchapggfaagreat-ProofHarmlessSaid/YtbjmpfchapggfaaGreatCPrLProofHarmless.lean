/-
ProofHarmless, walked.
-/
import Derived.Test.YtbjmpfchapggfaaGreatCPrLa
import Derived.Test.YtbjmpfchapggfaaGreatCHarP0
import Derived.Test.YtbjmpfchapggfaaGreatCOpenP
import Derived.Test.YtbjmpfchapggfaaGreatGLHarm
namespace Go.Proofs.YtbjmpfchapggfaaGreat
open Go.RowKit
set_option linter.unusedVariables false
set_option linter.unusedSimpArgs false
/-- The currents of the ticks. -/
def ysH (xs : List Int) (qs : List (List Int)) (n : Nat) : List (List Int) := qs.map (fun q => rowN (belF xs q) n)
theorem ysH_len (xs qs n) : (ysH xs qs n).length = qs.length := by unfold ysH; simp
theorem ysH_at {xs : List Int} {qs : List (List Int)} {n i : Nat} {q : List Int} (h : qs[i]? = some q) : (ysH xs qs n)[i]? = some (rowN (belF xs q) n) := by unfold ysH; rw [List.getElem?_map, h]; rfl
def lsH (s : GSite) (ys : List (List Int)) (k : Nat) : List (List R3) := (ys.take k).map (loadsOf s)
theorem lsH_succ {s : GSite} {ys : List (List Int)} {k : Nat} {y : List Int} (h : ys[k]? = some y) : lsH s ys (k + 1) = lsH s ys k ++ [loadsOf s y] := by
  unfold lsH
  rw [List.take_add_one, h]
  simp
theorem lsH_len {s : GSite} {ys : List (List Int)} {k : Nat} (h : k ≤ ys.length) : (lsH s ys k).length = k := by unfold lsH; simp; omega
theorem lsH_at {s : GSite} {ys : List (List Int)} {k i : Nat} {y : List Int} (hi : i < k) (h : ys[i]? = some y) : (lsH s ys k)[i]? = some (loadsOf s y) := by
  unfold lsH
  rw [List.getElem?_map, List.getElem?_take_of_lt hi, h]
  rfl
theorem loadsR {W : World} {A : Option Addr} {s : GSite} {ws : List Int} (h : Rd 3 enc3 W A (loadsOf s ws)) {c p : Nat} (hc : c < s.cons.length) (hp : p < 3) : ∃ b off, A = some ⟨b, off, none⟩ ∧ b < W.heap.size ∧ W.cell? ⟨b, off + c * 3 + p, none⟩ = some (.int .i64 (loadS s (fI ws) s.chgs.length (c * 3 + p))) := by
  obtain ⟨b, off, x, h1, h2, h3, h4⟩ := h.at_ (k := c) (by rw [loadsOf_len]; exact hc)
  rw [loadsOf_at hc] at h3
  injection h3 with h3
  subst h3
  refine ⟨b, off, h1, h2, h4 p _ ?_⟩
  match p, hp with
  | 0, _ => rfl
  | 1, _ => rfl
  | 2, _ => rfl
set_option maxRecDepth 100000 in
set_option maxHeartbeats 16000000 in
theorem walk_ProofHarmless (a1 : Option Addr) (n1 c1 : Nat) (a2 : Option Addr) (n2 c2 : Nat) (a3 : Option Addr) (n3 c3 : Nat) (a4 : Option Addr) (n4 c4 : Nat) (a5 : Option Addr) (n5 c5 : Nat) (s : GSite) {w : World} (HS : Hid (RdSite w a1 a2 a3 a4 a5 n1 n2 n3 n4 n5 s)) (_ : WfSite s) (aA : Option Addr) (cA nA : Nat) (xs : List Int) (hX : Rd 1 encI w aA xs) (HNA : Hid (xs.length = nA)) (hnA : nA ≤ 9223372036854775807) (_ : ∀ x, x ∈ xs → wfI64 x) (aP : Option Addr) (cP nP : Nat) (ps : List R3) (hP : Rd 3 enc3 w aP ps) (HNP : Hid (ps.length = nP)) (hnP : nP ≤ 9223372036854775807) (_ : ∀ x, x ∈ ps → wf3 x) (aT : Option Addr) (cT m : Nat) (hq : List HdT) (qs : List (List Int)) (hQ : RdLB w aT hq qs) (HNQ : Hid (qs.length = m)) (hm : m ≤ 9223372036854775807) :
    Calls Tryz.prog 3 #[.agg #[.slice a1 n1 c1, .slice a2 n2 c2, .slice a3 n3 c3, .slice a4 n4 c4, .slice a5 n5 c5], .slice aA nA cA, .agg #[.slice aP nP cP], .slice aT m cT] w fun e w' => e = .returned (.bool true) ∧ Below w.heap.size w w' := by
  have HX := Lib.hid hX
  have HPS := Lib.hid hP
  have HQ := Lib.hid hQ
  clear hX hP hQ
  obtain ⟨W0, hW0⟩ : ∃ W0, W0 = (w.alloc (.cells #[.slice a1 n1 c1, .slice a2 n2 c2, .slice a3 n3 c3, .slice a4 n4 c4, .slice a5 n5 c5] 28)).alloc (.cells #[.slice aP nP cP] 32) := ⟨_, rfl⟩
  have hm0 : LwM w W0 w.heap.size a1 n1 c1 a2 n2 c2 a3 n3 c3 a4 n4 c4 a5 n5 c5 s := by
    rw [hW0]
    exact (LwM.box (c1 := c1) (c2 := c2) (c3 := c3) (c4 := c4) (c5 := c5) HS.out).keep ((Below.refl _ _).alloc (Nat.le_refl _) _)
  have kp : W0.cell? ⟨w.heap.size + 1, 0, none⟩ = some (.slice aP nP cP) := by rw [hW0]; go_simp
  have HM := Lib.hid hm0
  have HW0 := Lib.hid hW0
  clear hm0 hW0
  go_enter Tryz.func3, Tryz.ntmps3
  go_wp2_with fail
  rw [← HW0.out]
  clear HW0
  obtain ⟨X, hX0⟩ : ∃ X, X = w.heap.size := ⟨_, rfl⟩
  rw [← hX0] at HM kp ⊢
  have HSZ : Hid (w.heap.size = X) := Lib.hid hX0.symm
  clear hX0
  refine (ltenHead_any W0).mono ?_
  rintro e w1 ⟨rfl, hb⟩
  have HM := Lib.hid (HM.out.keep (hb))
  have kp := ((hb).cell (p := ⟨X + 1, 0, none⟩) (World.block_lt_of_cell? _ _ kp)).trans kp
  obtain ⟨k0, k1, k2, k3, k4⟩ : w1.cell? ⟨X, 0, none⟩ = some (.slice a1 n1 c1) ∧ w1.cell? ⟨X, 1, none⟩ = some (.slice a2 n2 c2) ∧ w1.cell? ⟨X, 2, none⟩ = some (.slice a3 n3 c3) ∧ w1.cell? ⟨X, 3, none⟩ = some (.slice a4 n4 c4) ∧ w1.cell? ⟨X, 4, none⟩ = some (.slice a5 n5 c5) := ⟨HM.out.k0, HM.out.k1, HM.out.k2, HM.out.k3, HM.out.k4⟩
  have hlX : X < w1.heap.size := World.block_lt_of_cell? w1 _ k0
  have hlY : X + 1 < w1.heap.size := World.block_lt_of_cell? w1 _ kp
  clear hb
  go_wp2_with fail
  obtain ⟨W2, hW2⟩ : ∃ W2, W2 = w1.alloc (.cells #[.slice aA nA cA] 29) := ⟨_, rfl⟩
  have hb : Below w1.heap.size w1 W2 := by rw [hW2]; exact (Below.refl _ _).alloc (Nat.le_refl _) _
  have kl : W2.cell? ⟨w1.heap.size, 0, none⟩ = some (.slice aA nA cA) := by rw [hW2]; go_simp
  rw [← hW2]
  clear hW2
  have HM := Lib.hid (HM.out.keep (hb))
  have kp := ((hb).cell (p := ⟨X + 1, 0, none⟩) (World.block_lt_of_cell? _ _ kp)).trans kp
  clear k0 k1 k2 k3 k4 hlX hlY
  obtain ⟨k0, k1, k2, k3, k4⟩ : W2.cell? ⟨X, 0, none⟩ = some (.slice a1 n1 c1) ∧ W2.cell? ⟨X, 1, none⟩ = some (.slice a2 n2 c2) ∧ W2.cell? ⟨X, 2, none⟩ = some (.slice a3 n3 c3) ∧ W2.cell? ⟨X, 3, none⟩ = some (.slice a4 n4 c4) ∧ W2.cell? ⟨X, 4, none⟩ = some (.slice a5 n5 c5) := ⟨HM.out.k0, HM.out.k1, HM.out.k2, HM.out.k3, HM.out.k4⟩
  have hlX : X < W2.heap.size := World.block_lt_of_cell? W2 _ k0
  have hlY : X + 1 < W2.heap.size := World.block_lt_of_cell? W2 _ kp
  clear hb
  refine (ltenFew_any a1 a2 a3 a4 a5 n1 c1 n2 c2 n3 c3 n4 c4 n5 c5 s aP nP cP w1.heap.size aA nA cA W2 (Lib.hid HM.out.rs) kl (by omega) (by omega)).mono ?_
  rintro e w3 ⟨rfl, hb⟩
  have HM := Lib.hid (HM.out.keep (hb))
  have kp := ((hb).cell (p := ⟨X + 1, 0, none⟩) (World.block_lt_of_cell? _ _ kp)).trans kp
  clear k0 k1 k2 k3 k4 hlX hlY
  obtain ⟨k0, k1, k2, k3, k4⟩ : w3.cell? ⟨X, 0, none⟩ = some (.slice a1 n1 c1) ∧ w3.cell? ⟨X, 1, none⟩ = some (.slice a2 n2 c2) ∧ w3.cell? ⟨X, 2, none⟩ = some (.slice a3 n3 c3) ∧ w3.cell? ⟨X, 3, none⟩ = some (.slice a4 n4 c4) ∧ w3.cell? ⟨X, 4, none⟩ = some (.slice a5 n5 c5) := ⟨HM.out.k0, HM.out.k1, HM.out.k2, HM.out.k3, HM.out.k4⟩
  have hlX : X < w3.heap.size := World.block_lt_of_cell? w3 _ k0
  have hlY : X + 1 < w3.heap.size := World.block_lt_of_cell? w3 _ kp
  obtain ⟨q, hq⟩ : ∃ q, q = (decide (nA ≤ 40) && (fewS s && decide (nP ≤ 40))) := ⟨_, rfl⟩
  rw [← hq]
  have HQF := Lib.hid hq
  clear hb hq kl
  cases q
  · go_wp2_with fail
    go_ret
    exact ⟨rfl, HM.out.bel⟩
  have HQ40 : Hid (nA ≤ 40 ∧ nP ≤ 40) := Lib.hid (by
    have h := HQF.out.symm
    simp only [Bool.and_eq_true, decide_eq_true_eq] at h
    exact ⟨h.1, h.2.2⟩)
  clear HQF
  go_wp2_with fail
  refine (r4Valid_any a1 a2 a3 a4 a5 n1 c1 n2 c2 n3 c3 n4 c4 n5 c5 s w3 (Lib.hid HM.out.rs)).mono ?_
  rintro e w4 ⟨rfl, hb⟩
  have HM := Lib.hid (HM.out.keep (hb))
  have kp := ((hb).cell (p := ⟨X + 1, 0, none⟩) (World.block_lt_of_cell? _ _ kp)).trans kp
  clear k0 k1 k2 k3 k4 hlX hlY
  obtain ⟨k0, k1, k2, k3, k4⟩ : w4.cell? ⟨X, 0, none⟩ = some (.slice a1 n1 c1) ∧ w4.cell? ⟨X, 1, none⟩ = some (.slice a2 n2 c2) ∧ w4.cell? ⟨X, 2, none⟩ = some (.slice a3 n3 c3) ∧ w4.cell? ⟨X, 3, none⟩ = some (.slice a4 n4 c4) ∧ w4.cell? ⟨X, 4, none⟩ = some (.slice a5 n5 c5) := ⟨HM.out.k0, HM.out.k1, HM.out.k2, HM.out.k3, HM.out.k4⟩
  have hlX : X < w4.heap.size := World.block_lt_of_cell? w4 _ k0
  have hlY : X + 1 < w4.heap.size := World.block_lt_of_cell? w4 _ kp
  clear hb
  obtain ⟨qv, hqv⟩ : ∃ q, q = okSB keyL s := ⟨_, rfl⟩
  rw [← hqv]
  have HOKB := Lib.hid hqv
  clear hqv
  cases qv
  · go_wp2_with fail
    go_ret
    exact ⟨rfl, HM.out.bel⟩
  go_wp2_with fail
  refine (r8Currents_any a1 a2 a3 a4 a5 n1 c1 n2 c2 n3 c3 n4 c4 n5 c5 aA nA cA s xs w4 (Lib.hid HM.out.rs) (Lib.hid (HX.out.keep HM.out.bel)) HNA (by omega)).mono ?_
  rintro e w5 ⟨rfl, hb⟩
  have HM := Lib.hid (HM.out.keep (hb))
  have kp := ((hb).cell (p := ⟨X + 1, 0, none⟩) (World.block_lt_of_cell? _ _ kp)).trans kp
  clear k0 k1 k2 k3 k4 hlX hlY
  obtain ⟨k0, k1, k2, k3, k4⟩ : w5.cell? ⟨X, 0, none⟩ = some (.slice a1 n1 c1) ∧ w5.cell? ⟨X, 1, none⟩ = some (.slice a2 n2 c2) ∧ w5.cell? ⟨X, 2, none⟩ = some (.slice a3 n3 c3) ∧ w5.cell? ⟨X, 3, none⟩ = some (.slice a4 n4 c4) ∧ w5.cell? ⟨X, 4, none⟩ = some (.slice a5 n5 c5) := ⟨HM.out.k0, HM.out.k1, HM.out.k2, HM.out.k3, HM.out.k4⟩
  have hlX : X < w5.heap.size := World.block_lt_of_cell? w5 _ k0
  have hlY : X + 1 < w5.heap.size := World.block_lt_of_cell? w5 _ kp
  clear hb
  obtain ⟨qc, hqc⟩ : ∃ q, q = curB s xs := ⟨_, rfl⟩
  rw [← hqc]
  have HCUB := Lib.hid hqc
  clear hqc
  cases qc
  · go_wp2_with fail
    go_ret
    exact ⟨rfl, HM.out.bel⟩
  have HLB : Hid (loadB s xs = true) := Lib.hid (loadB_yes HOKB.out.symm HCUB.out.symm)
  have HOK : Hid (OkSite keyL s) := Lib.hid (okSB_iff.1 HOKB.out.symm)
  have HCU : Hid (xs.length = s.chgs.length ∧ ∀ i, i < xs.length → 0 ≤ fI xs i ∧ fI xs i ≤ 80) := Lib.hid (curB_iff.1 HCUB.out.symm)
  clear HOKB HCUB
  by_cases hm20 : 20 < m
  · have hmz : (20 : Int) < (m : Int) := by omega
    go_wp2_with fail
    go_ret
    exact ⟨rfl, HM.out.bel⟩
  have hmz : ¬ (20 : Int) < (m : Int) := by omega
  go_wp2_with fail
  refine (prCheck_any a1 a2 a3 a4 a5 n1 c1 n2 c2 n3 c3 n4 c4 n5 c5 aA nA cA s xs aP nP cP ps w5 (Lib.hid HM.out.rs) (Lib.hid (HX.out.keep HM.out.bel)) HNA (by omega) (Lib.hid (HPS.out.keep HM.out.bel)) HNP).mono ?_
  rintro e w6 ⟨rfl, hb⟩
  have HM := Lib.hid (HM.out.keep (hb))
  have kp := ((hb).cell (p := ⟨X + 1, 0, none⟩) (World.block_lt_of_cell? _ _ kp)).trans kp
  clear k0 k1 k2 k3 k4 hlX hlY
  obtain ⟨k0, k1, k2, k3, k4⟩ : w6.cell? ⟨X, 0, none⟩ = some (.slice a1 n1 c1) ∧ w6.cell? ⟨X, 1, none⟩ = some (.slice a2 n2 c2) ∧ w6.cell? ⟨X, 2, none⟩ = some (.slice a3 n3 c3) ∧ w6.cell? ⟨X, 3, none⟩ = some (.slice a4 n4 c4) ∧ w6.cell? ⟨X, 4, none⟩ = some (.slice a5 n5 c5) := ⟨HM.out.k0, HM.out.k1, HM.out.k2, HM.out.k3, HM.out.k4⟩
  have hlX : X < w6.heap.size := World.block_lt_of_cell? w6 _ k0
  have hlY : X + 1 < w6.heap.size := World.block_lt_of_cell? w6 _ kp
  clear hb
  obtain ⟨qp, hqp⟩ : ∃ q, q = prB s xs ps := ⟨_, rfl⟩
  rw [← hqp]
  have HPR := Lib.hid hqp
  clear hqp
  cases qp
  · go_wp2_with fail
    go_ret
    exact ⟨rfl, HM.out.bel⟩
  have hnA : nA ≤ 40 := HQ40.out.1
  have HXr := Lib.hid (HX.out.keep HM.out.bel)
  have HXB : Hid (∀ i, 0 ≤ fI xs i ∧ fI xs i ≤ 80) := Lib.hid (cur_all HCU.out)
  have hcl : s.cons.length = n1 := HS.out.l1
  have HCL := Lib.hid hcl
  have hn16 : n1 ≤ 16 := by have := HOK.out.n2; omega
  have HYL : Hid ((ysH xs qs nA).length = m) := Lib.hid ((ysH_len _ _ _).trans HNQ.out)
  have HYB : Hid (∀ i y, (ysH xs qs nA)[i]? = some y → loadB s y = true ∧ vioO s y = none) := Lib.hid (fun i y hy => by
    unfold ysH at hy
    rw [List.getElem?_map] at hy
    obtain ⟨q, hq, rfl⟩ := Option.map_eq_some_iff.1 hy
    have h1 : loadB s (rowN (belF xs q) nA) = true := loadB_yes (okSB_iff.2 HOK.out) (bel_cur HNA.out HCU.out)
    exact ⟨h1, prB_sound HPR.out.symm h1 (bel_le HNA.out HCU.out)⟩)
  obtain ⟨ys, hys⟩ : ∃ ys, ys = ysH xs qs nA := ⟨_, rfl⟩
  have HYS : Hid (∀ i q, qs[i]? = some q → ys[i]? = some (rowN (belF xs q) nA)) := Lib.hid (fun i q h => by rw [hys]; exact ysH_at h)
  rw [← hys] at HYL HYB
  clear hys hcl kp
  go_wp2_with fail
  obtain ⟨wB, hwB⟩ : ∃ wB, wB = w6 := ⟨_, rfl⟩
  have HMB := HM
  have HL0 : Hid (LdL w6 wB.heap.size (.slice none 0 0) [] (lsH s ys 0)) := Lib.hid (LdL.nil _ _)
  have HB0 : Hid (Below wB.heap.size wB w6) := Lib.hid (by rw [hwB]; exact Below.refl _ _)
  rw [← hwB] at HMB HXr
  clear hwB HM
  go_loopg [10, 60] m (fun g1 v10 v60 wr => ∃ (i : Nat) (hs : List HdT), v60 = .int .i64 i ∧ i ≤ m ∧ m - i ≤ g1 ∧ Hid (LdL wr wB.heap.size v10 hs (lsH s ys i)) ∧ Hid (Below wB.heap.size wB wr))
  case atStart => exact ⟨0, [], by go_num, by omega, by omega, HL0, HB0⟩
  case round =>
    clear HL0 HB0 k0 k1 k2 k3 k4 hlX hlY
    obtain ⟨i, hs, rfl, hi, hg1, HL, HB⟩ := hrel
    have HM := Lib.hid (HMB.out.keep HB.out)
    by_cases hlt : i < m
    · have hltz : (i : Int) < (m : Int) := by omega
      obtain ⟨bq, oq, aq, nq, cq, q, hAq, hbq, hqi, hnq, hnm, hrq, hcq⟩ := (HQ.out.keep HM.out.bel).1.at_ (k := i) (by rw [HNQ.out]; exact hlt)
      have HRQ := Lib.hid hrq
      have HNQ2 := Lib.hid hnq
      have HYI := Lib.hid (HYS.out i q hqi)
      have HLY : Hid (loadB s (rowN (belF xs q) nA) = true) := Lib.hid (HYB.out i _ HYI.out).1
      have HBQ : Hid (∀ j, 0 ≤ fI q j ∧ fI q j ≤ 255) := Lib.hid (u8_bdN (HQ.out.2 q (List.mem_of_getElem? hqi)))
      have HXr := Lib.hid (HXr.out.keep HB.out)
      subst hAq
      clear hqi hrq hnq hnm hbq
      obtain ⟨k0, k1, k2, k3, k4⟩ : wr.cell? ⟨X, 0, none⟩ = some (.slice a1 n1 c1) ∧ wr.cell? ⟨X, 1, none⟩ = some (.slice a2 n2 c2) ∧ wr.cell? ⟨X, 2, none⟩ = some (.slice a3 n3 c3) ∧ wr.cell? ⟨X, 3, none⟩ = some (.slice a4 n4 c4) ∧ wr.cell? ⟨X, 4, none⟩ = some (.slice a5 n5 c5) := ⟨HM.out.k0, HM.out.k1, HM.out.k2, HM.out.k3, HM.out.k4⟩
      have hlX : X < wr.heap.size := World.block_lt_of_cell? wr _ k0
      go_wp2_with fail
      clear hcq
      refine region_z (S := fun w' => Below wr.heap.size wr w') [] (by kernel_rfl) (Below.refl _ _).drew (fun hHeld => ?_)
      refine wpAnyZ_take (i := 0) (v := .agg #[.slice a1 n1 c1, .slice a2 n2 c2, .slice a3 n3 c3, .slice a4 n4 c4, .slice a5 n5 c5]) [] rfl (by kernel_rfl) (by kernel_rfl) (by kernel_rfl) (by kernel_rfl) (fun _ _ _ h => h) (Or.inl ⟨by kernel_rfl, fun w' hSw => ?_⟩) hHeld ?_
      · have s0 := (HM.out.keep hSw).k0
        have s1 := (HM.out.keep hSw).k1
        have s2 := (HM.out.keep hSw).k2
        have s3 := (HM.out.keep hSw).k3
        have s4 := (HM.out.keep hSw).k4
        clear hHeld hSw
        go_simp
      simp only [Act.put, List.getElem_toArray, List.getElem_cons_zero, List.getElem_cons_succ, List.setIfInBounds_toArray, List.set_cons_zero, List.set_cons_succ]
      refine wpAnyZ_take (i := 1) (v := .slice aA nA cA) [] rfl (by kernel_rfl) (by kernel_rfl) (by kernel_rfl) (by kernel_rfl) (fun _ _ _ h => h) (Or.inl ⟨by kernel_rfl, fun w' hSw => ?_⟩) hHeld ?_
      · clear hHeld hSw
        go_simp
      simp only [Act.put, List.getElem_toArray, List.getElem_cons_zero, List.getElem_cons_succ, List.setIfInBounds_toArray, List.set_cons_zero, List.set_cons_succ]
      refine wpAnyZ_take (i := 2) (v := .slice aq nq cq) [] rfl (by kernel_rfl) (by kernel_rfl) (by kernel_rfl) (by kernel_rfl) (fun _ _ _ h => h) (Or.inl ⟨by kernel_rfl, fun w' hSw => ?_⟩) hHeld ?_
      · clear hHeld hSw
        go_simp
      simp only [Act.put, List.getElem_toArray, List.getElem_cons_zero, List.getElem_cons_succ, List.setIfInBounds_toArray, List.set_cons_zero, List.set_cons_succ]
      refine wpAnyZ_one (i := 3) (by kernel_rfl) rfl (fun K' hK => ?_)
      go_simp
      refine (ltenBelow_any aA nA cA xs aq nq cq q _ (Lib.hid (HXr.out.keep hHeld)) HNA (by omega) HXB (Lib.hid (HRQ.out.keep hHeld)) HNQ2 HBQ).mono ?_
      rintro e wb ⟨aY, cY, rfl, hy, hb⟩
      have HY := Lib.hid hy
      have HBB := Lib.hid (hHeld.trans (hb.mono hHeld.size))
      clear hy
      refine hK.out _ _ ?_ (fun hHeld' => ?_)
      · exact hHeld.trans (hb.mono hHeld.size)
      clear hK K'
      clear hHeld hb 
      have hHeld := hHeld'
      clear hHeld'
      try simp only [Act.put, List.getElem_toArray, List.getElem_cons_zero, List.getElem_cons_succ, List.setIfInBounds_toArray, List.set_cons_zero, List.set_cons_succ]
      refine wpAnyZ_one (i := 4) (by kernel_rfl) rfl (fun K' hK => ?_)
      go_simp
      refine (trLoads_fresh a1 n1 c1 a2 n2 c2 a3 n3 c3 a4 n4 c4 a5 n5 c5 aY nA cY s (rowN (belF xs q) nA) _ (Lib.hid (HM.out.keep hHeld).rs) HY (Lib.hid (rowN_len _ _)) (by omega)).mono ?_
      rintro e wk ⟨aL, cL, rfl, hrl, hfr, hb⟩
      have HRL := Lib.hid hrl
      have HFR := Lib.hid hfr
      rw [loadsO_yes HLY.out] at HRL
      rw [HLY.out, loadsO_yes HLY.out, loadsOf_len, HCL.out, show errO true = 0 from rfl]
      clear hrl hfr
      refine hK.out _ _ ?_ (fun hHeld' => ?_)
      · exact hHeld.trans (hb.mono hHeld.size)
      clear hK K'
      clear hHeld hb 
      have hHeld := hHeld'
      clear hHeld'
      try simp only [Act.put, List.getElem_toArray, List.getElem_cons_zero, List.getElem_cons_succ, List.setIfInBounds_toArray, List.set_cons_zero, List.set_cons_succ]
      refine wpAnyZ_take (i := 5) (v := .tuple #[.slice aL n1 cL, .int .i64 0]) [] rfl (by kernel_rfl) (by kernel_rfl) (by kernel_rfl) (by kernel_rfl) (fun _ _ _ h => h) (Or.inl ⟨by kernel_rfl, fun w' hSw => ?_⟩) hHeld ?_
      · clear hHeld hSw
        go_simp
      simp only [Act.put, List.getElem_toArray, List.getElem_cons_zero, List.getElem_cons_succ, List.setIfInBounds_toArray, List.set_cons_zero, List.set_cons_succ]
      refine wpAnyZ_take (i := 6) (v := .slice aL n1 cL) [] rfl (by kernel_rfl) (by kernel_rfl) (by kernel_rfl) (by kernel_rfl) (fun _ _ _ h => h) (Or.inl ⟨by kernel_rfl, fun w' hSw => ?_⟩) hHeld ?_
      · clear hHeld hSw
        go_simp
      simp only [Act.put, List.getElem_toArray, List.getElem_cons_zero, List.getElem_cons_succ, List.setIfInBounds_toArray, List.set_cons_zero, List.set_cons_succ]
      refine wpAnyZ_take (i := 7) (v := .int .i64 0) [] rfl (by kernel_rfl) (by kernel_rfl) (by kernel_rfl) (by kernel_rfl) (fun _ _ _ h => h) (Or.inl ⟨by kernel_rfl, fun w' hSw => ?_⟩) hHeld ?_
      · clear hHeld hSw
        go_simp
      simp only [Act.put, List.getElem_toArray, List.getElem_cons_zero, List.getElem_cons_succ, List.setIfInBounds_toArray, List.set_cons_zero, List.set_cons_succ]
      refine wpAnyZ_take (i := 8) (v := .slice aL n1 cL) [] rfl (by kernel_rfl) (by kernel_rfl) (by kernel_rfl) (by kernel_rfl) (fun _ _ _ h => h) (Or.inl ⟨by kernel_rfl, fun w' hSw => ?_⟩) hHeld ?_
      · clear hHeld hSw
        go_simp
      simp only [Act.put, List.getElem_toArray, List.getElem_cons_zero, List.getElem_cons_succ, List.setIfInBounds_toArray, List.set_cons_zero, List.set_cons_succ]
      refine wpAnyZ_take (i := 9) (v := .int .i64 0) [] rfl (by kernel_rfl) (by kernel_rfl) (by kernel_rfl) (by kernel_rfl) (fun _ _ _ h => h) (Or.inl ⟨by kernel_rfl, fun w' hSw => ?_⟩) hHeld ?_
      · clear hHeld hSw
        go_simp
      simp only [Act.put, List.getElem_toArray, List.getElem_cons_zero, List.getElem_cons_succ, List.setIfInBounds_toArray, List.set_cons_zero, List.set_cons_succ]
      refine wpAnyZ_done (by kernel_rfl) ?_ _
      go_step
      go_step
      have HBk : Hid (Below wB.heap.size wB wk) := Lib.hid (HB.out.trans (hHeld.mono HB.out.size))
      have HLk := Lib.hid (HL.out.keep hHeld)
      have HMk := Lib.hid (HM.out.keep hHeld)
      have HVB : Hid (∀ k, u10.ownBlock = some k → k < wr.heap.size) := Lib.hid (fun k hk => (World.ownsRow.lt HL.out.own k hk).2)
      have HFR2 : Hid (∀ x, aL = some x → x.block < wk.heap.size ∧ u10.ownBlock ≠ some x.block) := Lib.hid (fun x hx => by
        obtain ⟨f1, f2⟩ := HFR.out x hx
        refine ⟨f2, fun e => ?_⟩
        have h1 := HVB.out _ e
        have h2 := HBB.out.size
        omega)
      obtain ⟨ap, v', w7, ap1, ap2, ap3, ap4⟩ := app_ld HLk.out (by have := HBk.out.size; omega) (by rw [HL.out.len, lsH_len (by have := HYL.out; omega)]; omega) aL n1 cL _ (by rw [loadsOf_len, HCL.out]) HRL.out HFR2.out
      have HL7 : Hid (LdL w7 wB.heap.size v' (hs ++ [(aL, n1, cL)]) (lsH s ys (i + 1))) := Lib.hid (by rw [lsH_succ HYI.out]; exact ap3.out)
      have HB7 : Hid (Below wB.heap.size wB w7) := Lib.hid (HBk.out.trans ap4.out)
      obtain ⟨k0, k1, k2, k3, k4⟩ : wk.cell? ⟨X, 0, none⟩ = some (.slice a1 n1 c1) ∧ wk.cell? ⟨X, 1, none⟩ = some (.slice a2 n2 c2) ∧ wk.cell? ⟨X, 2, none⟩ = some (.slice a3 n3 c3) ∧ wk.cell? ⟨X, 3, none⟩ = some (.slice a4 n4 c4) ∧ wk.cell? ⟨X, 4, none⟩ = some (.slice a5 n5 c5) := ⟨HMk.out.k0, HMk.out.k1, HMk.out.k2, HMk.out.k3, HMk.out.k4⟩
      have hlX : X < wk.heap.size := World.block_lt_of_cell? wk _ k0
      clear hHeld HL HB HM HBB HFR HFR2 HVB HLk HMk HBk ap3 ap4
      have zn : ((n1 : Int) != (n1 : Int)) = false := by simp
      have zn2 : ((n1 : Int) == (n1 : Int)) = true := by simp
      go_wp2_with fail
      go_roundg (m - (i + 1))
      case measure => omega
      case rel => exact ⟨i + 1, _, by go_num, by omega, by omega, HL7, HB7⟩
    have hltz : ¬ (i : Int) < (m : Int) := by omega
    obtain rfl : m = i := by omega
    obtain ⟨aD, cD, hvD, hrD⟩ := HL.out.rd
    rw [lsH_len (by have := HYL.out; omega)] at hvD
    have HRD := Lib.hid hrD
    subst hvD
    clear hrD HL
    obtain ⟨k0, k1, k2, k3, k4⟩ : wr.cell? ⟨X, 0, none⟩ = some (.slice a1 n1 c1) ∧ wr.cell? ⟨X, 1, none⟩ = some (.slice a2 n2 c2) ∧ wr.cell? ⟨X, 2, none⟩ = some (.slice a3 n3 c3) ∧ wr.cell? ⟨X, 3, none⟩ = some (.slice a4 n4 c4) ∧ wr.cell? ⟨X, 4, none⟩ = some (.slice a5 n5 c5) := ⟨HM.out.k0, HM.out.k1, HM.out.k2, HM.out.k3, HM.out.k4⟩
    have hlX : X < wr.heap.size := World.block_lt_of_cell? wr _ k0
    obtain ⟨wC, hwC⟩ : ∃ wC, wC = wr := ⟨_, rfl⟩
    have HMC := HM
    have HBc : Hid (Below wC.heap.size wC wr) := Lib.hid (by rw [hwC]; exact Below.refl _ _)
    rw [← hwC] at HMC HRD
    clear HM HB
    go_wp2_with fail
    clear hwC
    go_loopg [90] n1 (fun g1 v90 wr => ∃ c : Nat, v90 = .int .i64 c ∧ c ≤ n1 ∧ n1 - c ≤ g1 ∧ Hid (Below wC.heap.size wC wr))
    case atStart => exact ⟨0, by go_num, by omega, by omega, HBc⟩
    case round =>
      clear HBc k0 k1 k2 k3 k4 hlX
      obtain ⟨c, rfl, hc, hg1, HB⟩ := hrel
      have HM := Lib.hid (HMC.out.keep HB.out)
      by_cases hlc : c < n1
      · have hlcz : (c : Int) < (n1 : Int) := by omega
        obtain ⟨b, off, g, hAc, hbl, hgx, d0, d1, d2, d3, d4, d5, d6, d7, d8, d9, d10⟩ := rdCon_at HM.out.rs.r1 (k := c) (by rw [HCL.out]; exact hlc)
        have HLI : Hid (limAt s c = limV g) := Lib.hid (by unfold limAt; rw [hgx]; rfl)
        have HOC := Lib.hid (HOK.out.okC hgx)
        have HLD : Hid (∀ i p, i < m → p < 3 → (0 ≤ ldF s ys c i p) ∧ ldF s ys c i p ≤ limV g) := Lib.hid (fun i p hi hp => by
          have hq : ys[i]? = some (ys[i]'(by rw [HYL.out]; exact hi)) := List.getElem?_eq_getElem _
          have h1 := HYB.out i _ hq
          have h2 := ldF_bd hq h1.1 h1.2 (c := c) (p := p) (by rw [HCL.out]; exact hlc) hp
          rw [HLI.out] at h2
          exact h2)
        have HHC : Hid (∀ x, 0 ≤ x → x ≤ limV g → x ≤ g.limit ∧ x ≤ g.neutral ∧ x ≤ 1000 ∧ (g.rated = 0 ∨ x ≤ g.rated) ∧ (zC g = true ∨ g.gain * x * x ≤ roomC g)) := Lib.hid (fun x h0 h1 => harm_c HOC.out h0 h1)
        have HGN : Hid (1 ≤ g.neutral ∧ g.neutral ≤ 1000) := Lib.hid HOC.out.neu
        have HAC : Hid (a1 = some ⟨b, off, none⟩) := Lib.hid hAc
        clear hgx
        subst hAc
        go_wp2_with fail
        obtain ⟨WA, hWA⟩ : ∃ WA, WA = wr.alloc (.cells #[.string g.name, .int .i64 g.up, .int .i64 g.limit, .int .i64 g.neutral, .int .i64 g.rated, .int .i64 g.heat, .int .i64 g.amb, .int .i64 g.most, .int .i64 g.gain, .int .i64 g.loss, .int .i64 g.den] 50) := ⟨_, rfl⟩
        have bA : Below wr.heap.size wr WA := by rw [hWA]; exact (Below.refl _ wr).alloc (Nat.le_refl _) _
        have HY : Hid (Own WA wr.heap.size 50 11 (conF g)) := Lib.hid (by rw [hWA]; exact conF_new wr g)
        have HBA : Hid (Below wC.heap.size wC WA) := Lib.hid (HB.out.trans (bA.mono HB.out.size))
        have HRDA := Lib.hid (HRD.out.keep HBA.out)
        rw [← hWA]
        obtain ⟨Y, hY⟩ : ∃ Y, Y = wr.heap.size := ⟨_, rfl⟩
        rw [← hY] at HY ⊢
        clear hWA bA d0 d1 d2 d3 d4 d5 d6 d7 d8 d9 d10 hbl HM HB hY
        have HBs : Hid (Below WA.heap.size WA WA) := Lib.hid (Below.refl _ _)
        obtain ⟨ws, hws⟩ : ∃ ws, ws = WA := ⟨_, rfl⟩
        rw [← hws]
        rw [show Below WA.heap.size WA WA = Below WA.heap.size WA ws by rw [hws]] at HBs
        clear hws
        go_loopg [95] 3 (fun g2 v95 wp => ∃ p : Nat, v95 = .int .i64 p ∧ p ≤ 3 ∧ 3 - p ≤ g2 ∧ Hid (Below WA.heap.size WA wp))
        case atStart => exact ⟨0, by go_num, by omega, by omega, HBs⟩
        case round =>
          clear HBs
          obtain ⟨p, rfl, hp, hg2, HBp⟩ := hrel
          by_cases hlp : p < 3
          · have hlpz : (p : Int) < 3 := by omega
            go_wp2_with fail
            obtain ⟨wq, hwq⟩ : ∃ wq, wq = wr := ⟨_, rfl⟩
            have HO0 : Hid (OwnL wr wq.heap.size (.slice none 0 0) (phK s ys c p 0)) := Lib.hid (OwnL.nil _ _)
            have HBq : Hid (Below wq.heap.size wq wr) := Lib.hid (by rw [hwq]; exact Below.refl _ _)
            have HBp : Hid (Below WA.heap.size WA wq) := Lib.hid (by rw [hwq]; exact HBp.out)
            clear hwq
            go_loopg [18, 100] m (fun g3 v18 v100 wi => ∃ i : Nat, v100 = .int .i64 i ∧ i ≤ m ∧ m - i ≤ g3 ∧ Hid (OwnL wi wq.heap.size v18 (phK s ys c p i)) ∧ Hid (Below wq.heap.size wq wi))
            case atStart => exact ⟨0, by go_num, by omega, by omega, HO0, HBq⟩
            case round =>
              clear HO0 HBq
              obtain ⟨i, rfl, hi, hg3, HO, HBi⟩ := hrel
              have HBa : Hid (Below WA.heap.size WA wr) := Lib.hid (HBp.out.trans (HBi.out.mono HBp.out.size))
              by_cases hli : i < m
              · have hliz : (i : Int) < (m : Int) := by omega
                have hyi : ys[i]? = some (ys[i]'(by rw [HYL.out]; exact hli)) := List.getElem?_eq_getElem _
                obtain ⟨y, hy⟩ : ∃ y, y = ys[i]'(by rw [HYL.out]; exact hli) := ⟨_, rfl⟩
                rw [← hy] at hyi
                obtain ⟨bD, oD, aL, cL, hAD, hbD, hrL, hcD0⟩ := HRDA.out.at_ (lsH_at (s := s) (k := m) hli hyi)
                rw [loadsOf_len, HCL.out] at hcD0
                have hcD := (HBa.out.cell (p := ⟨bD, oD + i, none⟩) hbD).trans hcD0
                obtain ⟨bL, oL, hAL, hbL, g0⟩ := loadsR hrL (c := c) (p := 0) (by rw [HCL.out]; exact hlc) (by omega)
                obtain ⟨bL', oL', hAL', -, g1⟩ := loadsR hrL (c := c) (p := 1) (by rw [HCL.out]; exact hlc) (by omega)
                rw [hAL] at hAL'
                injection hAL' with hAL'
                injection hAL' with f1 f2
                subst f1 f2
                obtain ⟨bL', oL', hAL', -, g2⟩ := loadsR hrL (c := c) (p := 2) (by rw [HCL.out]; exact hlc) (by omega)
                rw [hAL] at hAL'
                injection hAL' with hAL'
                injection hAL' with f1 f2
                subst f1 f2
                obtain ⟨bL', oL', hAL', -, gp⟩ := loadsR hrL (c := c) (p := p) (by rw [HCL.out]; exact hlc) hlp
                rw [hAL] at hAL'
                injection hAL' with hAL'
                injection hAL' with f1 f2
                subst f1 f2
                have HE : Hid (∀ r, ldF s ys c i r = loadS s (fI y) s.chgs.length (c * 3 + r)) := Lib.hid (fun r => by unfold ldF; rw [hyi]; rfl)
                rw [← HE.out] at g0 g1 g2 gp
                rw [Nat.add_zero] at g0
                have t0 := (HBa.out.cell (p := ⟨bL, oL + c * 3, none⟩) hbL).trans g0
                have t1 := (HBa.out.cell (p := ⟨bL, oL + c * 3 + 1, none⟩) hbL).trans g1
                have t2 := (HBa.out.cell (p := ⟨bL, oL + c * 3 + 2, none⟩) hbL).trans g2
                have tp := (HBa.out.cell (p := ⟨bL, oL + c * 3 + p, none⟩) hbL).trans gp
                subst hAD hAL
                obtain ⟨l0, hl0⟩ : ∃ x, x = ldF s ys c i 0 := ⟨_, rfl⟩
                obtain ⟨l1, hl1⟩ : ∃ x, x = ldF s ys c i 1 := ⟨_, rfl⟩
                obtain ⟨l2, hl2⟩ : ∃ x, x = ldF s ys c i 2 := ⟨_, rfl⟩
                obtain ⟨lp, hlp2⟩ : ∃ x, x = ldF s ys c i p := ⟨_, rfl⟩
                have b0 := HLD.out i 0 hli (by omega)
                have b1 := HLD.out i 1 hli (by omega)
                have b2 := HLD.out i 2 hli (by omega)
                have b3 := HLD.out i p hli hlp
                rw [← hl0] at b0 t0 g0
                rw [← hl1] at b1 t1 g1
                rw [← hl2] at b2 t2 g2
                rw [← hlp2] at b3 tp gp
                have HLP := Lib.hid hlp2
                obtain ⟨e00, e01, e02, _, _⟩ := HHC.out l0 b0.1 b0.2
                obtain ⟨e10, e11, e12, _, _⟩ := HHC.out l1 b1.1 b1.2
                obtain ⟨e20, e21, e22, _, _⟩ := HHC.out l2 b2.1 b2.2
                obtain ⟨e30, e31, e32, _, _⟩ := HHC.out lp b3.1 b3.2
                have HNE := Lib.hid (fun W => phNeutral_ok l0 l1 l2 ⟨b0.1, e02⟩ ⟨b1.1, e12⟩ ⟨b2.1, e22⟩ W)
                have HNM : Hid (∀ nn : Nat, (∀ k : Nat, k ≤ 1000 → l0 ≤ k → l1 ≤ k → l2 ≤ k → nn ≤ k) → (nn : Int) ≤ g.neutral) := Lib.hid (fun nn h => by
                  have h1 := HGN.out
                  have h2 := h g.neutral.toNat (by omega) (by omega) (by omega) (by omega)
                  omega)
                have HLX : Hid (lp ≤ g.limit) := Lib.hid e30
                obtain ⟨ap, v', w7, ap1, ap2, ap3, ap4, ap5⟩ := app_int lp HO.out HBi.out.size (by rw [phK_len]; omega)
                have HOn : Hid (OwnL w7 wq.heap.size v' (phK s ys c p (i + 1))) := Lib.hid (by rw [phK_succ, ← hlp2]; exact ap3)
                have HB7 : Hid (Below wq.heap.size wq w7) := Lib.hid (HBi.out.trans (ap4.below HBi.out.size (fun k _ hk => (World.ownsRow.lt HO.out k hk).1)))
                have HBb : Hid (Below WA.heap.size WA w7) := Lib.hid (HBp.out.trans (HB7.out.mono HBp.out.size))
                have HGG := Lib.hid (And.intro g0 (And.intro g1 (And.intro g2 gp)))
                clear hy hyi hrL hl0 hl1 hl2 hlp2 b0 b1 b2 b3 e00 e01 e02 e10 e11 e12 e20 e21 e22 e30 e31 e32 HE ap3 ap4 ap5 HO HBi g0 g1 g2 gp hcD0
                go_wp2_with fail
                clear t0 t1 t2 tp hcD
                have t0 := (HBb.out.cell (p := ⟨bL, oL + c * 3, none⟩) hbL).trans HGG.out.1
                have t1 := (HBb.out.cell (p := ⟨bL, oL + c * 3 + 1, none⟩) hbL).trans HGG.out.2.1
                have t2 := (HBb.out.cell (p := ⟨bL, oL + c * 3 + 2, none⟩) hbL).trans HGG.out.2.2.1
                refine region_z (S := fun w' => Below w7.heap.size w7 w') [] (by kernel_rfl) (Below.refl _ _).drew (fun hHeld => ?_)
                refine wpAnyZ_take (i := 0) (v := .slice (some ⟨bL, oL, none⟩) n1 cL) [] rfl (by kernel_rfl) (by kernel_rfl) (by kernel_rfl) (by kernel_rfl) (fun _ _ _ h => h) (Or.inl ⟨by kernel_rfl, fun w' hSw => ?_⟩) hHeld ?_
                · clear hHeld hSw
                  go_simp
                simp only [Act.put, List.getElem_toArray, List.getElem_cons_zero, List.getElem_cons_succ, List.setIfInBounds_toArray, List.set_cons_zero, List.set_cons_succ]
                refine wpAnyZ_take (i := 1) (v := .int .i64 (c : Nat)) [] rfl (by kernel_rfl) (by kernel_rfl) (by kernel_rfl) (by kernel_rfl) (fun _ _ _ h => h) (Or.inl ⟨by kernel_rfl, fun w' hSw => ?_⟩) hHeld ?_
                · clear hHeld hSw
                  go_simp
                simp only [Act.put, List.getElem_toArray, List.getElem_cons_zero, List.getElem_cons_succ, List.setIfInBounds_toArray, List.set_cons_zero, List.set_cons_succ]
                refine wpAnyZ_take (i := 2) (v := .pointer (some ⟨bL, oL + c * 3, none⟩)) [] rfl (by kernel_rfl) (by kernel_rfl) (by kernel_rfl) (by kernel_rfl) (fun _ _ _ h => h) (Or.inl ⟨by kernel_rfl, fun w' hSw => ?_⟩) hHeld ?_
                · clear hHeld hSw
                  go_simp
                  all_goals (first | omega | (intro hh; omega))
                simp only [Act.put, List.getElem_toArray, List.getElem_cons_zero, List.getElem_cons_succ, List.setIfInBounds_toArray, List.set_cons_zero, List.set_cons_succ]
                refine wpAnyZ_take (i := 3) (v := .pointer (some ⟨bL, oL + c * 3, none⟩)) [] rfl (by kernel_rfl) (by kernel_rfl) (by kernel_rfl) (by kernel_rfl) (fun _ _ _ h => h) (Or.inl ⟨by kernel_rfl, fun w' hSw => ?_⟩) hHeld ?_
                · clear hHeld hSw
                  go_simp
                  all_goals (first | omega | (intro hh; omega))
                simp only [Act.put, List.getElem_toArray, List.getElem_cons_zero, List.getElem_cons_succ, List.setIfInBounds_toArray, List.set_cons_zero, List.set_cons_succ]
                refine wpAnyZ_take (i := 4) (v := .int .i64 l0) [] rfl (by kernel_rfl) (by kernel_rfl) (by kernel_rfl) (by kernel_rfl) (fun _ _ _ h => h) (Or.inl ⟨by kernel_rfl, fun w' hSw => ?_⟩) hHeld ?_
                · have s0 := (hSw.cell (p := ⟨bL, oL + c * 3, none⟩) (World.block_lt_of_cell? _ _ t0)).trans t0
                  have s1 := (hSw.cell (p := ⟨bL, oL + c * 3 + 1, none⟩) (World.block_lt_of_cell? _ _ t1)).trans t1
                  have s2 := (hSw.cell (p := ⟨bL, oL + c * 3 + 2, none⟩) (World.block_lt_of_cell? _ _ t2)).trans t2
                  clear hHeld hSw
                  go_simp
                simp only [Act.put, List.getElem_toArray, List.getElem_cons_zero, List.getElem_cons_succ, List.setIfInBounds_toArray, List.set_cons_zero, List.set_cons_succ]
                refine wpAnyZ_take (i := 5) (v := .slice (some ⟨bL, oL, none⟩) n1 cL) [] rfl (by kernel_rfl) (by kernel_rfl) (by kernel_rfl) (by kernel_rfl) (fun _ _ _ h => h) (Or.inl ⟨by kernel_rfl, fun w' hSw => ?_⟩) hHeld ?_
                · clear hHeld hSw
                  go_simp
                simp only [Act.put, List.getElem_toArray, List.getElem_cons_zero, List.getElem_cons_succ, List.setIfInBounds_toArray, List.set_cons_zero, List.set_cons_succ]
                refine wpAnyZ_take (i := 6) (v := .int .i64 (c : Nat)) [] rfl (by kernel_rfl) (by kernel_rfl) (by kernel_rfl) (by kernel_rfl) (fun _ _ _ h => h) (Or.inl ⟨by kernel_rfl, fun w' hSw => ?_⟩) hHeld ?_
                · clear hHeld hSw
                  go_simp
                simp only [Act.put, List.getElem_toArray, List.getElem_cons_zero, List.getElem_cons_succ, List.setIfInBounds_toArray, List.set_cons_zero, List.set_cons_succ]
                refine wpAnyZ_take (i := 7) (v := .pointer (some ⟨bL, oL + c * 3, none⟩)) [] rfl (by kernel_rfl) (by kernel_rfl) (by kernel_rfl) (by kernel_rfl) (fun _ _ _ h => h) (Or.inl ⟨by kernel_rfl, fun w' hSw => ?_⟩) hHeld ?_
                · clear hHeld hSw
                  go_simp
                  all_goals (first | omega | (intro hh; omega))
                simp only [Act.put, List.getElem_toArray, List.getElem_cons_zero, List.getElem_cons_succ, List.setIfInBounds_toArray, List.set_cons_zero, List.set_cons_succ]
                refine wpAnyZ_take (i := 8) (v := .pointer (some ⟨bL, oL + c * 3 + 1, none⟩)) [] rfl (by kernel_rfl) (by kernel_rfl) (by kernel_rfl) (by kernel_rfl) (fun _ _ _ h => h) (Or.inl ⟨by kernel_rfl, fun w' hSw => ?_⟩) hHeld ?_
                · clear hHeld hSw
                  go_simp
                  all_goals (first | omega | (intro hh; omega))
                simp only [Act.put, List.getElem_toArray, List.getElem_cons_zero, List.getElem_cons_succ, List.setIfInBounds_toArray, List.set_cons_zero, List.set_cons_succ]
                refine wpAnyZ_take (i := 9) (v := .int .i64 l1) [] rfl (by kernel_rfl) (by kernel_rfl) (by kernel_rfl) (by kernel_rfl) (fun _ _ _ h => h) (Or.inl ⟨by kernel_rfl, fun w' hSw => ?_⟩) hHeld ?_
                · have s0 := (hSw.cell (p := ⟨bL, oL + c * 3, none⟩) (World.block_lt_of_cell? _ _ t0)).trans t0
                  have s1 := (hSw.cell (p := ⟨bL, oL + c * 3 + 1, none⟩) (World.block_lt_of_cell? _ _ t1)).trans t1
                  have s2 := (hSw.cell (p := ⟨bL, oL + c * 3 + 2, none⟩) (World.block_lt_of_cell? _ _ t2)).trans t2
                  clear hHeld hSw
                  go_simp
                simp only [Act.put, List.getElem_toArray, List.getElem_cons_zero, List.getElem_cons_succ, List.setIfInBounds_toArray, List.set_cons_zero, List.set_cons_succ]
                refine wpAnyZ_take (i := 10) (v := .slice (some ⟨bL, oL, none⟩) n1 cL) [] rfl (by kernel_rfl) (by kernel_rfl) (by kernel_rfl) (by kernel_rfl) (fun _ _ _ h => h) (Or.inl ⟨by kernel_rfl, fun w' hSw => ?_⟩) hHeld ?_
                · clear hHeld hSw
                  go_simp
                simp only [Act.put, List.getElem_toArray, List.getElem_cons_zero, List.getElem_cons_succ, List.setIfInBounds_toArray, List.set_cons_zero, List.set_cons_succ]
                refine wpAnyZ_take (i := 11) (v := .int .i64 (c : Nat)) [] rfl (by kernel_rfl) (by kernel_rfl) (by kernel_rfl) (by kernel_rfl) (fun _ _ _ h => h) (Or.inl ⟨by kernel_rfl, fun w' hSw => ?_⟩) hHeld ?_
                · clear hHeld hSw
                  go_simp
                simp only [Act.put, List.getElem_toArray, List.getElem_cons_zero, List.getElem_cons_succ, List.setIfInBounds_toArray, List.set_cons_zero, List.set_cons_succ]
                refine wpAnyZ_take (i := 12) (v := .pointer (some ⟨bL, oL + c * 3, none⟩)) [] rfl (by kernel_rfl) (by kernel_rfl) (by kernel_rfl) (by kernel_rfl) (fun _ _ _ h => h) (Or.inl ⟨by kernel_rfl, fun w' hSw => ?_⟩) hHeld ?_
                · clear hHeld hSw
                  go_simp
                  all_goals (first | omega | (intro hh; omega))
                simp only [Act.put, List.getElem_toArray, List.getElem_cons_zero, List.getElem_cons_succ, List.setIfInBounds_toArray, List.set_cons_zero, List.set_cons_succ]
                refine wpAnyZ_take (i := 13) (v := .pointer (some ⟨bL, oL + c * 3 + 2, none⟩)) [] rfl (by kernel_rfl) (by kernel_rfl) (by kernel_rfl) (by kernel_rfl) (fun _ _ _ h => h) (Or.inl ⟨by kernel_rfl, fun w' hSw => ?_⟩) hHeld ?_
                · clear hHeld hSw
                  go_simp
                  all_goals (first | omega | (intro hh; omega))
                simp only [Act.put, List.getElem_toArray, List.getElem_cons_zero, List.getElem_cons_succ, List.setIfInBounds_toArray, List.set_cons_zero, List.set_cons_succ]
                refine wpAnyZ_take (i := 14) (v := .int .i64 l2) [] rfl (by kernel_rfl) (by kernel_rfl) (by kernel_rfl) (by kernel_rfl) (fun _ _ _ h => h) (Or.inl ⟨by kernel_rfl, fun w' hSw => ?_⟩) hHeld ?_
                · have s0 := (hSw.cell (p := ⟨bL, oL + c * 3, none⟩) (World.block_lt_of_cell? _ _ t0)).trans t0
                  have s1 := (hSw.cell (p := ⟨bL, oL + c * 3 + 1, none⟩) (World.block_lt_of_cell? _ _ t1)).trans t1
                  have s2 := (hSw.cell (p := ⟨bL, oL + c * 3 + 2, none⟩) (World.block_lt_of_cell? _ _ t2)).trans t2
                  clear hHeld hSw
                  go_simp
                simp only [Act.put, List.getElem_toArray, List.getElem_cons_zero, List.getElem_cons_succ, List.setIfInBounds_toArray, List.set_cons_zero, List.set_cons_succ]
                refine wpAnyZ_one (i := 15) (by kernel_rfl) rfl (fun K' hK => ?_)
                go_simp
                refine (HNE.out _).mono ?_
                rintro e w5 ⟨nn, rfl, ⟨hn1_, hmin⟩, hb⟩
                refine hK.out _ _ ?_ (fun hHeld' => ?_)
                · exact hHeld.trans (hb.mono hHeld.size)
                clear hK K'
                clear hHeld hb 
                have hHeld := hHeld'
                clear hHeld'
                try simp only [Act.put, List.getElem_toArray, List.getElem_cons_zero, List.getElem_cons_succ, List.setIfInBounds_toArray, List.set_cons_zero, List.set_cons_succ]
                refine wpAnyZ_take (i := 16) (v := .tuple #[.int .i64 (nn : Nat), .int .i64 0]) [] rfl (by kernel_rfl) (by kernel_rfl) (by kernel_rfl) (by kernel_rfl) (fun _ _ _ h => h) (Or.inl ⟨by kernel_rfl, fun w' hSw => ?_⟩) hHeld ?_
                · clear hHeld hSw
                  go_simp
                simp only [Act.put, List.getElem_toArray, List.getElem_cons_zero, List.getElem_cons_succ, List.setIfInBounds_toArray, List.set_cons_zero, List.set_cons_succ]
                refine wpAnyZ_take (i := 17) (v := .int .i64 (nn : Nat)) [] rfl (by kernel_rfl) (by kernel_rfl) (by kernel_rfl) (by kernel_rfl) (fun _ _ _ h => h) (Or.inl ⟨by kernel_rfl, fun w' hSw => ?_⟩) hHeld ?_
                · clear hHeld hSw
                  go_simp
                simp only [Act.put, List.getElem_toArray, List.getElem_cons_zero, List.getElem_cons_succ, List.setIfInBounds_toArray, List.set_cons_zero, List.set_cons_succ]
                refine wpAnyZ_take (i := 18) (v := .int .i64 0) [] rfl (by kernel_rfl) (by kernel_rfl) (by kernel_rfl) (by kernel_rfl) (fun _ _ _ h => h) (Or.inl ⟨by kernel_rfl, fun w' hSw => ?_⟩) hHeld ?_
                · clear hHeld hSw
                  go_simp
                simp only [Act.put, List.getElem_toArray, List.getElem_cons_zero, List.getElem_cons_succ, List.setIfInBounds_toArray, List.set_cons_zero, List.set_cons_succ]
                refine wpAnyZ_take (i := 19) (v := .int .i64 (nn : Nat)) [] rfl (by kernel_rfl) (by kernel_rfl) (by kernel_rfl) (by kernel_rfl) (fun _ _ _ h => h) (Or.inl ⟨by kernel_rfl, fun w' hSw => ?_⟩) hHeld ?_
                · clear hHeld hSw
                  go_simp
                simp only [Act.put, List.getElem_toArray, List.getElem_cons_zero, List.getElem_cons_succ, List.setIfInBounds_toArray, List.set_cons_zero, List.set_cons_succ]
                refine wpAnyZ_take (i := 20) (v := .int .i64 0) [] rfl (by kernel_rfl) (by kernel_rfl) (by kernel_rfl) (by kernel_rfl) (fun _ _ _ h => h) (Or.inl ⟨by kernel_rfl, fun w' hSw => ?_⟩) hHeld ?_
                · clear hHeld hSw
                  go_simp
                simp only [Act.put, List.getElem_toArray, List.getElem_cons_zero, List.getElem_cons_succ, List.setIfInBounds_toArray, List.set_cons_zero, List.set_cons_succ]
                refine wpAnyZ_done (by kernel_rfl) ?_ _
                go_step
                go_step
                have HOn := Lib.hid (HOn.out.keep hHeld)
                have HB7 : Hid (Below wq.heap.size wq w5) := Lib.hid (HB7.out.trans (hHeld.mono HB7.out.size))
                have HBb : Hid (Below WA.heap.size WA w5) := Lib.hid (HBb.out.trans (hHeld.mono HBb.out.size))
                have tp := (HBb.out.cell (p := ⟨bL, oL + c * 3 + p, none⟩) hbL).trans HGG.out.2.2.2
                have HY5 := Lib.hid (HY.out.keep HBb.out HY.out.lt)
                have y2 : w5.cell? ⟨Y, 2, none⟩ = some (.int .i64 g.limit) := HY5.out.cell (i := 2) (by omega)
                have y3 : w5.cell? ⟨Y, 3, none⟩ = some (.int .i64 g.neutral) := HY5.out.cell (i := 3) (by omega)
                have hnn := HNM.out nn hmin
                have hlx := HLX.out
                have hd0 : decide (g.neutral < (nn : Int)) = false := decide_eq_false (by omega)
                have hd1 : decide (g.limit < lp) = false := decide_eq_false (by omega)
                clear t0 t1 t2 hHeld hmin hn1_ HY5 HGG HNM HLX HNE hnn hlx
                go_wp2_with fail
                go_quiet (fail)
                go_wp2_with fail
                go_roundg (m - (i + 1))
                case measure => omega
                case rel => exact ⟨i + 1, by go_num, by omega, by omega, Lib.hid (HOn.out.keep (below_drewG _ (Below.refl _ _))), Lib.hid (below_drewG _ HB7.out)⟩
              have hliz : ¬ (i : Int) < (m : Int) := by omega
              obtain rfl : m = i := by omega
              obtain ⟨sa, sc, hv18⟩ := HO.out.shape
              rw [phK_len] at hv18
              subst hv18
              have HFX := Lib.hid (ownL_fresh HO.out)
              have HRO : Hid (Rd 1 encI wr sa (phK s ys c p m)) := Lib.hid (by
                obtain ⟨a', c', e', r'⟩ := HO.out.rd
                injection e' with e1 e2 e3
                rw [e1]
                exact r')
              have HYr := Lib.hid (HY.out.keep HBa.out HY.out.lt)
              have y4 : wr.cell? ⟨Y, 4, none⟩ = some (.int .i64 g.rated) := HYr.out.cell (i := 4) (by omega)
              have y5 : wr.cell? ⟨Y, 5, none⟩ = some (.int .i64 g.heat) := HYr.out.cell (i := 5) (by omega)
              have HPB : Hid (∀ i, i < m → (0 ≤ fI (phK s ys c p m) i ∧ fI (phK s ys c p m) i ≤ 1000) ∧ (g.rated = 0 ∨ fI (phK s ys c p m) i ≤ g.rated) ∧ (zC g = true ∨ g.gain * fI (phK s ys c p m) i * fI (phK s ys c p m) i ≤ roomC g)) := Lib.hid (fun i hi => by
                rw [phK_at s ys c p hi]
                have h1 := HLD.out i p hi hlp
                have h2 := HHC.out _ h1.1 h1.2
                exact ⟨⟨h1.1, h2.2.2.1⟩, h2.2.2.2.1, h2.2.2.2.2⟩)
              have HME := Lib.hid (fuMelts_ok g HOC.out sa m sc (phK s ys c p m) wr HRO (Lib.hid (phK_len _ _ _ _ _)) (by omega) (Lib.hid (fun i hi => ⟨(HPB.out i hi).1, (HPB.out i hi).2.1⟩)) (Lib.hid (fun a ha => (HFX.out a ha).2)))
              go_wp2_with fail
              refine HME.out.mono ?_
              rintro e w4 ⟨rfl, hb4⟩
              have HRO := Lib.hid (HRO.out.keep hb4)
              have HYr := Lib.hid (HYr.out.keep hb4 HYr.out.lt)
              have HBa : Hid (Below WA.heap.size WA w4) := Lib.hid (HBa.out.trans (hb4.mono HBa.out.size))
              have y6 : w4.cell? ⟨Y, 6, none⟩ = some (.int .i64 g.amb) := HYr.out.cell (i := 6) (by omega)
              have y7 : w4.cell? ⟨Y, 7, none⟩ = some (.int .i64 g.most) := HYr.out.cell (i := 7) (by omega)
              have y8 : w4.cell? ⟨Y, 8, none⟩ = some (.int .i64 g.gain) := HYr.out.cell (i := 8) (by omega)
              have y9 : w4.cell? ⟨Y, 9, none⟩ = some (.int .i64 g.loss) := HYr.out.cell (i := 9) (by omega)
              have y10 : w4.cell? ⟨Y, 10, none⟩ = some (.int .i64 g.den) := HYr.out.cell (i := 10) (by omega)
              have HHO := Lib.hid (cbHot_ok g HOC.out sa m sc (phK s ys c p m) w4 HRO (Lib.hid (phK_len _ _ _ _ _)) (by omega) (Lib.hid (fun i hi => ⟨(HPB.out i hi).1, (HPB.out i hi).2.2⟩)) (Lib.hid (fun a ha => Nat.lt_of_lt_of_le (HFX.out a ha).2 hb4.size)))
              clear HME hb4 y4 y5 HRO HYr
              go_wp2_with fail
              refine HHO.out.mono ?_
              rintro e w5 ⟨rfl, hb5⟩
              have HBa : Hid (Below WA.heap.size WA w5) := Lib.hid (HBa.out.trans (hb5.mono HBa.out.size))
              clear hb5 HHO y6 y7 y8 y9 y10 HPB HFX
              go_wp2_with fail
              go_roundg (3 - (p + 1))
              case measure => omega
              case rel => exact ⟨p + 1, by go_num, by omega, by omega, HBa⟩
          have hlpz : ¬ (p : Int) < 3 := by omega
          have HBe : Hid (Below wC.heap.size wC wr) := Lib.hid (HBA.out.trans (HBp.out.mono HBA.out.size))
          go_wp2_with fail
          go_roundg (n1 - (c + 1))
          case measure => omega
          case rel => exact ⟨c + 1, by go_num, by omega, by omega, HBe⟩
      have hlcz : ¬ (c : Int) < (n1 : Int) := by omega
      go_wp2_with fail
      go_ret
      exact ⟨rfl, HM.out.bel⟩
end Go.Proofs.YtbjmpfchapggfaaGreat
