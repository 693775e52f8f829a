/-
LimitsSums, walked.
-/
import Derived.Test.YtmplageajlhpbaaCLimP
namespace Go.Proofs.Ytmplageajlhpbaa
open Go.RowKit
set_option linter.unusedVariables false
set_option linter.unusedSimpArgs false
def plusL (xs zs : List Int) (k : Nat) : List Int := (List.range k).map (fun i => fI xs i + fI zs i)
theorem plusL_len (xs zs : List Int) (k : Nat) : (plusL xs zs k).length = k := by unfold plusL; simp
theorem plusL_at (xs zs : List Int) {k i : Nat} (hi : i < k) : fI (plusL xs zs k) i = fI xs i + fI zs i := by
  unfold plusL fI
  rw [List.getElem?_map, List.getElem?_range hi]
  rfl
theorem plusL_succ (xs zs : List Int) (k : Nat) : plusL xs zs (k + 1) = plusL xs zs k ++ [fI xs k + fI zs k] := by
  unfold plusL
  rw [List.range_succ, List.map_append]
  rfl
theorem loadS_plus (s : GSite) (f g h : Nat → Int) (j : Nat) : ∀ m : Nat, (∀ i, i < m → f i = g i + h i) → loadS s f m j = loadS s g m j + loadS s h m j
  | 0, _ => by rw [loadS_zero, loadS_zero, loadS_zero]; rfl
  | m + 1, e => by
    have ih := loadS_plus s f g h j m (fun i hi => e i (by omega))
    have h1 := e m (by omega)
    unfold loadS at *
    rw [S_succ, S_succ, S_succ]
    by_cases c : onB s m (j / 3) (j % 3) = true
    · rw [pick_pos c, pick_pos c, pick_pos c]; omega
    · rw [pick_neg c, pick_neg c, pick_neg c]; omega
theorem vio_plus {s : GSite} {xs zs ys : List Int} (h : ∀ i, i < s.chgs.length → fI ys i = fI xs i + fI zs i) (ha : ∀ t, t < s.cons.length * 3 → 2 * loadS s (fI xs) s.chgs.length t ≤ limAt s (t / 3) ∧ 2 * loadS s (fI zs) s.chgs.length t ≤ limAt s (t / 3)) : vioO s ys = none := by
  cases hl : loadB s ys
  · exact vioO_no hl
  · refine vioO_all hl (fun t ht => ?_)
    have h1 := ha t ht
    have h2 := loadS_plus s (fI ys) (fI xs) (fI zs) t s.chgs.length h
    unfold chkL
    simp only [decide_eq_false_iff_not]
    omega
set_option maxRecDepth 100000 in
set_option maxHeartbeats 8000000 in
theorem walk_LimitsSums (a1 : Option Addr) (n1 c1 : Nat) (a2 : Option Addr) (n2 c2 : Nat) (a3 : Option Addr) (n3 c3 : Nat) (a4 : Option Addr) (n4 c4 : Nat) (a5 : Option Addr) (n5 c5 : Nat) (s : GSite) {w : World} (HS : Hid (RdSite w a1 a2 a3 a4 a5 n1 n2 n3 n4 n5 s)) (_ : WfSite s) (aA : Option Addr) (cA nA : Nat) (xs : List Int) (hX : Rd 1 encI w aA xs) (HNA : Hid (xs.length = nA)) (hnA : nA ≤ 9223372036854775807) (_ : ∀ x, x ∈ xs → wfI64 x) (aB : Option Addr) (cB nB : Nat) (zs : List Int) (hZ : Rd 1 encI w aB zs) (HNB : Hid (zs.length = nB)) (hnB : nB ≤ 9223372036854775807) (_ : ∀ x, x ∈ zs → wfI64 x) :
    Calls Try.prog 8 #[.agg #[.slice a1 n1 c1, .slice a2 n2 c2, .slice a3 n3 c3, .slice a4 n4 c4, .slice a5 n5 c5], .slice aA nA cA, .slice aB nB cB] w fun e w' => e = .returned (.bool true) ∧ Below w.heap.size w w' := by
  have HX := Lib.hid hX
  have HZ := Lib.hid hZ
  have HM0 := Lib.hid (LwM.box (c1 := c1) (c2 := c2) (c3 := c3) (c4 := c4) (c5 := c5) HS.out)
  clear hX hZ
  go_enter Try.func8, Try.ntmps8
  go_wp2_with fail
  refine (lhHead_any _).mono ?_
  rintro e w1 ⟨rfl, hb⟩
  have HM := Lib.hid (HM0.out.keep hb)
  generalize hXX : w.heap.size = X at HM ⊢
  have hlX : X < w1.heap.size := World.block_lt_of_cell? w1 _ HM.out.k0
  have HSZ := Lib.hid hXX
  clear hb HM0 hXX
  obtain ⟨k0, k1, k2, k3, k4⟩ : w1.cell? ⟨X, 0, none⟩ = some (.slice a1 n1 c1) ∧ w1.cell? ⟨X, 1, none⟩ = some (.slice a2 n2 c2) ∧ w1.cell? ⟨X, 2, none⟩ = some (.slice a3 n3 c3) ∧ w1.cell? ⟨X, 3, none⟩ = some (.slice a4 n4 c4) ∧ w1.cell? ⟨X, 4, none⟩ = some (.slice a5 n5 c5) := ⟨HM.out.k0, HM.out.k1, HM.out.k2, HM.out.k3, HM.out.k4⟩
  go_wp2_with fail
  refine (lhValid_any a1 a2 a3 a4 a5 n1 c1 n2 c2 n3 c3 n4 c4 n5 c5 aA nA cA s xs w1 (Lib.hid HM.out.rs) (Lib.hid (HX.out.keep HM.out.bel)) HNA hnA).mono ?_
  rintro e w2 ⟨rfl, hb⟩
  have HM := Lib.hid (HM.out.keep hb)
  have hlX : X < w2.heap.size := World.block_lt_of_cell? w2 _ HM.out.k0
  clear hb k0 k1 k2 k3 k4
  obtain ⟨k0, k1, k2, k3, k4⟩ : w2.cell? ⟨X, 0, none⟩ = some (.slice a1 n1 c1) ∧ w2.cell? ⟨X, 1, none⟩ = some (.slice a2 n2 c2) ∧ w2.cell? ⟨X, 2, none⟩ = some (.slice a3 n3 c3) ∧ w2.cell? ⟨X, 3, none⟩ = some (.slice a4 n4 c4) ∧ w2.cell? ⟨X, 4, none⟩ = some (.slice a5 n5 c5) := ⟨HM.out.k0, HM.out.k1, HM.out.k2, HM.out.k3, HM.out.k4⟩
  go_wp2_with fail
  refine (lhValid_any a1 a2 a3 a4 a5 n1 c1 n2 c2 n3 c3 n4 c4 n5 c5 aB nB cB s zs w2 (Lib.hid HM.out.rs) (Lib.hid (HZ.out.keep HM.out.bel)) HNB hnB).mono ?_
  rintro e w3 ⟨rfl, hb⟩
  have HM := Lib.hid (HM.out.keep hb)
  clear hb k0 k1 k2 k3 k4
  cases hv : lhB s xs
  · go_wp2_with fail
    go_ret
    exact ⟨rfl, HM.out.bel⟩
  cases hv2 : lhB s zs
  · go_wp2_with fail
    go_ret
    exact ⟨rfl, HM.out.bel⟩
  have HLB := Lib.hid (lhB_load hv)
  have HLZ := Lib.hid (lhB_load hv2)
  clear hv hv2
  have HCU : Hid (xs.length = s.chgs.length ∧ ∀ i, i < xs.length → 0 ≤ fI xs i ∧ fI xs i ≤ 80) := Lib.hid (by
    have h := HLB.out
    unfold loadB at h
    rw [Bool.and_eq_true] at h
    exact curB_iff.1 h.2)
  have HCZ : Hid (zs.length = s.chgs.length ∧ ∀ i, i < zs.length → 0 ≤ fI zs i ∧ fI zs i ≤ 80) := Lib.hid (by
    have h := HLZ.out
    unfold loadB at h
    rw [Bool.and_eq_true] at h
    exact curB_iff.1 h.2)
  have hok : okSB keyL s = true := by
    cases h : okSB keyL s
    · have := HLB.out; rw [loadB_no1 h] at this; cases this
    · rfl
  have HOKB := Lib.hid hok
  have hcl : s.cons.length = n1 := HS.out.l1
  have hn16 : n1 ≤ 16 := by have := (okSB_iff.1 hok).n2; omega
  have HC16 : Hid (s.chgs.length ≤ 16) := Lib.hid (okSB_iff.1 hok).n5
  have hnA16 : nA ≤ 16 := by have h1 := HC16.out; have h2 := HCU.out.1; rw [HNA.out] at h2; omega
  have hnAB : nA = nB := by have h1 := HCZ.out.1; have h2 := HCU.out.1; rw [HNA.out] at h2; rw [HNB.out] at h1; omega
  subst hnAB
  have HCL := Lib.hid hcl
  clear hok hcl
  go_wp2_with fail
  go_loopg [10, 11] nA (fun g1 v10 v11 wr => ∃ k : Nat, v11 = .int .i64 k ∧ k ≤ nA ∧ nA - k ≤ g1 ∧ Hid (OwnL wr w3.heap.size v10 (plusL xs zs k)) ∧ Hid (Below w3.heap.size w3 wr))
  case atStart => exact ⟨0, by go_num, by omega, by omega, Lib.hid (OwnL.nil _ _), Lib.hid (Below.refl _ _)⟩
  case round =>
    obtain ⟨k, rfl, hk, hg1, HL5, HB⟩ := hrel
    by_cases hlt : k < nA
    · have hltz : (k : Int) < (nA : Int) := by omega
      obtain ⟨b, off, hA, hbl, hc⟩ := HX.out.int (k := k) (by rw [HNA.out]; exact hlt)
      obtain ⟨b', off', hA', hbl', hc'⟩ := HZ.out.int (k := k) (by rw [HNB.out]; omega)
      have hBw : Below w.heap.size w wr := below_then HM.out.bel HB.out
      have hx : wr.cell? ⟨b, off + k, none⟩ = some (.int .i64 (fI xs k)) := (hBw.cell (p := ⟨b, off + k, none⟩) hbl).trans hc
      have hy : wr.cell? ⟨b', off' + k, none⟩ = some (.int .i64 (fI zs k)) := (hBw.cell (p := ⟨b', off' + k, none⟩) hbl').trans hc'
      have hxb := HCU.out.2 k (by rw [HNA.out]; exact hlt)
      have hyb := HCZ.out.2 k (by rw [HNB.out]; omega)
      have HSU := Lib.hid (plusL_succ xs zs k)
      have hll : (plusL xs zs k).length ≤ 1000000 := by rw [plusL_len]; omega
      subst hA hA'
      clear hc hc' hbl hbl' hBw
      generalize fI xs k = x at *
      generalize fI zs k = y at *
      have hsum : IntKind.i64.wrap (x + y) = x + y := IntWalk.i64_in _ (by omega)
      go_wp2_with fail
      refine region_z (S := fun w' => w'.cell? ⟨b, off + k, none⟩ = some (.int .i64 x) ∧ w'.cell? ⟨b', off' + k, none⟩ = some (.int .i64 y)) [11, 12] (by kernel_rfl) ⟨hx, hy⟩ (fun hHeld => ?_)
      obtain ⟨wd, hwd⟩ : ∃ wd, wd = wr.drew := ⟨_, rfl⟩
      have HLd : Hid (OwnL wd w3.heap.size u10 (plusL xs zs k)) := Lib.hid (by rw [hwd]; exact HL5.out.keep (below_drew wr))
      have HBd : Hid (Below w3.heap.size w3 wd) := Lib.hid (by rw [hwd]; exact below_then HB.out (below_drew wr))
      rw [← hwd] at hHeld ⊢
      clear hwd hx hy HL5 HB
      refine wpAnyZ_take (i := 0) (v := u10) [11, 12] rfl (by kernel_rfl) (by kernel_rfl) (by kernel_rfl) (by kernel_rfl) (fun _ _ _ h => h) (Or.inl ⟨by rfl, fun w' hSw => ?_⟩) hHeld ?_
      · obtain ⟨s0, s1⟩ := hSw
        clear hHeld
        go_simp
      simp only [Act.put, List.getElem_toArray, List.getElem_cons_zero, List.getElem_cons_succ, List.setIfInBounds_toArray, List.set_cons_zero, List.set_cons_succ]
      refine wpAnyZ_take (i := 1) (v := .slice (some ⟨b, off, none⟩) nA cA) [3, 4, 9, 10, 11, 12] rfl (by kernel_rfl) (by kernel_rfl) (by kernel_rfl) (by kernel_rfl) (fun _ _ _ h => h) (Or.inl ⟨by rfl, fun w' hSw => ?_⟩) hHeld ?_
      · obtain ⟨s0, s1⟩ := hSw
        clear hHeld
        go_simp
      simp only [Act.put, List.getElem_toArray, List.getElem_cons_zero, List.getElem_cons_succ, List.setIfInBounds_toArray, List.set_cons_zero, List.set_cons_succ]
      refine wpAnyZ_take (i := 2) (v := .int .i64 (k : Nat)) [3, 4, 9, 10, 11, 12] rfl (by kernel_rfl) (by kernel_rfl) (by kernel_rfl) (by kernel_rfl) (fun _ _ _ h => h) (Or.inl ⟨by rfl, fun w' hSw => ?_⟩) hHeld ?_
      · obtain ⟨s0, s1⟩ := hSw
        clear hHeld
        go_simp
      simp only [Act.put, List.getElem_toArray, List.getElem_cons_zero, List.getElem_cons_succ, List.setIfInBounds_toArray, List.set_cons_zero, List.set_cons_succ]
      refine wpAnyZ_take (i := 3) (v := .pointer (some ⟨b, off + k, none⟩)) [4, 9, 10, 11, 12] rfl (by kernel_rfl) (by kernel_rfl) (by kernel_rfl) (by kernel_rfl) (fun _ _ _ h => h) (Or.inl ⟨by rfl, fun w' hSw => ?_⟩) hHeld ?_
      · obtain ⟨s0, s1⟩ := hSw
        clear hHeld
        go_simp
      simp only [Act.put, List.getElem_toArray, List.getElem_cons_zero, List.getElem_cons_succ, List.setIfInBounds_toArray, List.set_cons_zero, List.set_cons_succ]
      refine wpAnyZ_take (i := 4) (v := .int .i64 x) [9, 10, 11, 12] rfl (by kernel_rfl) (by kernel_rfl) (by kernel_rfl) (by kernel_rfl) (fun _ _ _ h => h) (Or.inl ⟨by rfl, fun w' hSw => ?_⟩) hHeld ?_
      · obtain ⟨s0, s1⟩ := hSw
        clear hHeld
        go_simp
      simp only [Act.put, List.getElem_toArray, List.getElem_cons_zero, List.getElem_cons_succ, List.setIfInBounds_toArray, List.set_cons_zero, List.set_cons_succ]
      refine wpAnyZ_take (i := 5) (v := .slice (some ⟨b', off', none⟩) nA cB) [7, 8, 9, 10, 11, 12] rfl (by kernel_rfl) (by kernel_rfl) (by kernel_rfl) (by kernel_rfl) (fun _ _ _ h => h) (Or.inl ⟨by rfl, fun w' hSw => ?_⟩) hHeld ?_
      · obtain ⟨s0, s1⟩ := hSw
        clear hHeld
        go_simp
      simp only [Act.put, List.getElem_toArray, List.getElem_cons_zero, List.getElem_cons_succ, List.setIfInBounds_toArray, List.set_cons_zero, List.set_cons_succ]
      refine wpAnyZ_take (i := 6) (v := .int .i64 (k : Nat)) [7, 8, 9, 10, 11, 12] rfl (by kernel_rfl) (by kernel_rfl) (by kernel_rfl) (by kernel_rfl) (fun _ _ _ h => h) (Or.inl ⟨by rfl, fun w' hSw => ?_⟩) hHeld ?_
      · obtain ⟨s0, s1⟩ := hSw
        clear hHeld
        go_simp
      simp only [Act.put, List.getElem_toArray, List.getElem_cons_zero, List.getElem_cons_succ, List.setIfInBounds_toArray, List.set_cons_zero, List.set_cons_succ]
      refine wpAnyZ_take (i := 7) (v := .pointer (some ⟨b', off' + k, none⟩)) [8, 9, 10, 11, 12] rfl (by kernel_rfl) (by kernel_rfl) (by kernel_rfl) (by kernel_rfl) (fun _ _ _ h => h) (Or.inl ⟨by rfl, fun w' hSw => ?_⟩) hHeld ?_
      · obtain ⟨s0, s1⟩ := hSw
        clear hHeld
        go_simp
      simp only [Act.put, List.getElem_toArray, List.getElem_cons_zero, List.getElem_cons_succ, List.setIfInBounds_toArray, List.set_cons_zero, List.set_cons_succ]
      refine wpAnyZ_take (i := 8) (v := .int .i64 y) [9, 10, 11, 12] rfl (by kernel_rfl) (by kernel_rfl) (by kernel_rfl) (by kernel_rfl) (fun _ _ _ h => h) (Or.inl ⟨by rfl, fun w' hSw => ?_⟩) hHeld ?_
      · obtain ⟨s0, s1⟩ := hSw
        clear hHeld
        go_simp
      simp only [Act.put, List.getElem_toArray, List.getElem_cons_zero, List.getElem_cons_succ, List.setIfInBounds_toArray, List.set_cons_zero, List.set_cons_succ]
      refine wpAnyZ_take (i := 9) (v := .int .i64 (x + y)) [10, 11, 12] rfl (by kernel_rfl) (by kernel_rfl) (by kernel_rfl) (by kernel_rfl) (fun _ _ _ h => h) (Or.inl ⟨by rfl, fun w' hSw => ?_⟩) hHeld ?_
      · obtain ⟨s0, s1⟩ := hSw
        clear hHeld
        go_simp
      simp only [Act.put, List.getElem_toArray, List.getElem_cons_zero, List.getElem_cons_succ, List.setIfInBounds_toArray, List.set_cons_zero, List.set_cons_succ]
      obtain ⟨ap, v', w4, ap1, ap2, ap3, ap4, ap5⟩ := app_int (x + y) (w := wd) HLd.out HBd.out.size hll
      have HLK : Hid (OwnL w4 w3.heap.size v' (plusL xs zs (k + 1))) := Lib.hid (by rw [HSU.out]; exact ap3)
      have HB4 : Hid (Below w3.heap.size w3 w4) := Lib.hid (HBd.out.trans (OwnL.below HLd.out ap4 HBd.out.size))
      clear ap3 ap4 ap5
      refine wpAnyZ_one (i := 10) (by kernel_rfl) rfl (fun K' hK => ?_)
      go_simp
      refine hK.out _ _ ?_ (fun hHeld' => ?_)
      · obtain ⟨s0, s1⟩ := hHeld
        exact ⟨(((Below.refl wd.heap.size wd).alloc (Nat.le_refl _) _).cell (World.block_lt_of_cell? _ _ s0)).trans s0, (((Below.refl wd.heap.size wd).alloc (Nat.le_refl _) _).cell (World.block_lt_of_cell? _ _ s1)).trans s1⟩
      clear hK K' hHeld hHeld'
      try simp only [Act.put, List.getElem_toArray, List.getElem_cons_zero, List.getElem_cons_succ, List.setIfInBounds_toArray, List.set_cons_zero, List.set_cons_succ]
      refine wpAnyZ_last (i := 11) (by kernel_rfl) rfl (by kernel_rfl) (fun K' hK => ?_)
      rw [if_pos (by rfl)]
      refine append_go rfl rfl ap ap1 ap2 ?_
      refine hK.out _ _ ?_
      clear hK K'
      try simp only [Act.put, List.getElem_toArray, List.getElem_cons_zero, List.getElem_cons_succ, List.setIfInBounds_toArray, List.set_cons_zero, List.set_cons_succ]
      refine wpAnyZ_last (i := 12) (by kernel_rfl) rfl (by kernel_rfl) (fun K' hK => ?_)
      go_simp
      refine hK.out _ _ ?_
      clear hK K' ap ap1 ap2
      try simp only [Act.put, List.getElem_toArray, List.getElem_cons_zero, List.getElem_cons_succ, List.setIfInBounds_toArray, List.set_cons_zero, List.set_cons_succ]
      refine wpAnyZ_done (by kernel_rfl) ?_ _
      go_wp2_with fail
      go_roundg (nA - (k + 1))
      case measure => omega
      case rel => exact ⟨k + 1, by go_num, by omega, by omega, HLK, HB4⟩
    have hltz : ¬ (k : Int) < (nA : Int) := by omega
    have hkn : k = nA := by omega
    subst hkn
    have HM := Lib.hid (HM.out.keep HB.out)
    clear HB
    go_wp2_with fail
    go_loopg [12] n1 (fun g1 v12 wq => ∃ c : Nat, v12 = .int .i64 c ∧ c ≤ n1 ∧ n1 - c ≤ g1 ∧ Hid (∀ t, t < c * 3 → 2 * loadS s (fI xs) s.chgs.length t ≤ limAt s (t / 3) ∧ 2 * loadS s (fI zs) s.chgs.length t ≤ limAt s (t / 3)) ∧ Hid (LwM w wq X a1 n1 c1 a2 n2 c2 a3 n3 c3 a4 n4 c4 a5 n5 c5 s) ∧ Hid (OwnL wq w3.heap.size u10 (plusL xs zs k)))
    case atStart => exact ⟨0, by go_num, by omega, by omega, Lib.hid (fun t ht => by omega), HM, HL5⟩
    case round =>
      obtain ⟨c, rfl, hc, hg1, HA, HM, HL5⟩ := hrel
      have hlX : X < wr.heap.size := World.block_lt_of_cell? wr _ HM.out.k0
      obtain ⟨k0, k1, k2, k3, k4⟩ : wr.cell? ⟨X, 0, none⟩ = some (.slice a1 n1 c1) ∧ wr.cell? ⟨X, 1, none⟩ = some (.slice a2 n2 c2) ∧ wr.cell? ⟨X, 2, none⟩ = some (.slice a3 n3 c3) ∧ wr.cell? ⟨X, 3, none⟩ = some (.slice a4 n4 c4) ∧ wr.cell? ⟨X, 4, none⟩ = some (.slice a5 n5 c5) := ⟨HM.out.k0, HM.out.k1, HM.out.k2, HM.out.k3, HM.out.k4⟩
      by_cases hlt : c < n1
      · have hltz : (c : Int) < (n1 : Int) := by omega
        have HCO : Hid (okCo s (c : Int) = true) := Lib.hid (okCo_yes HOKB.out ⟨by omega, by have := HCL.out; omega⟩)
        go_wp2_with fail
        refine (limLimit_any a1 a2 a3 a4 a5 n1 c1 n2 c2 n3 c3 n4 c4 n5 c5 s (c : Int) wr (Lib.hid HM.out.rs)).mono ?_
        rintro e w4 ⟨rfl, hb⟩
        rw [limO_yes HCO.out, HCO.out, errT, Int.toNat_natCast]
        have HM := Lib.hid (HM.out.keep hb)
        have HL5 := Lib.hid (HL5.out.keep hb)
        have hlX : X < w4.heap.size := World.block_lt_of_cell? w4 _ HM.out.k0
        clear hb k0 k1 k2 k3 k4
        obtain ⟨k0, k1, k2, k3, k4⟩ : w4.cell? ⟨X, 0, none⟩ = some (.slice a1 n1 c1) ∧ w4.cell? ⟨X, 1, none⟩ = some (.slice a2 n2 c2) ∧ w4.cell? ⟨X, 2, none⟩ = some (.slice a3 n3 c3) ∧ w4.cell? ⟨X, 3, none⟩ = some (.slice a4 n4 c4) ∧ w4.cell? ⟨X, 4, none⟩ = some (.slice a5 n5 c5) := ⟨HM.out.k0, HM.out.k1, HM.out.k2, HM.out.k3, HM.out.k4⟩
        go_wp2_with fail
        refine (lhLoads_any a1 a2 a3 a4 a5 n1 c1 n2 c2 n3 c3 n4 c4 n5 c5 aA k cA s xs (c : Int) w4 (Lib.hid HM.out.rs) (Lib.hid (HX.out.keep HM.out.bel)) HNA hnA).mono ?_
        rintro e w5 ⟨rfl, hb⟩
        have HLE : Hid (∀ p, lodF s xs (c : Int) p = loadS s (fI xs) s.chgs.length (c * 3 + p)) := Lib.hid (fun p => by unfold lodF; rw [if_pos ⟨HLB.out, by omega, by rw [HCL.out]; omega⟩, Int.toNat_natCast])
        have HLF : Hid (∀ p, lodF s zs (c : Int) p = loadS s (fI zs) s.chgs.length (c * 3 + p)) := Lib.hid (fun p => by unfold lodF; rw [if_pos ⟨HLZ.out, by omega, by rw [HCL.out]; omega⟩, Int.toNat_natCast])
        have HM := Lib.hid (HM.out.keep hb)
        have HL5 := Lib.hid (HL5.out.keep hb)
        have hlX : X < w5.heap.size := World.block_lt_of_cell? w5 _ HM.out.k0
        clear hb k0 k1 k2 k3 k4
        obtain ⟨k0, k1, k2, k3, k4⟩ : w5.cell? ⟨X, 0, none⟩ = some (.slice a1 n1 c1) ∧ w5.cell? ⟨X, 1, none⟩ = some (.slice a2 n2 c2) ∧ w5.cell? ⟨X, 2, none⟩ = some (.slice a3 n3 c3) ∧ w5.cell? ⟨X, 3, none⟩ = some (.slice a4 n4 c4) ∧ w5.cell? ⟨X, 4, none⟩ = some (.slice a5 n5 c5) := ⟨HM.out.k0, HM.out.k1, HM.out.k2, HM.out.k3, HM.out.k4⟩
        go_wp2_with fail
        obtain ⟨W5, hW5⟩ : ∃ W5, W5 = w5.alloc (.cells #[.int .i64 (lodF s xs (c : Int) 0), .int .i64 (lodF s xs (c : Int) 1), .int .i64 (lodF s xs (c : Int) 2)] 50) := ⟨_, rfl⟩
        have b5 : Below w5.heap.size w5 W5 := by rw [hW5]; exact (Below.refl _ w5).alloc (Nat.le_refl _) _
        have HV5 : Hid (VBox W5 w5.heap.size (lodF s xs (c : Int) 0) (lodF s xs (c : Int) 1) (lodF s xs (c : Int) 2)) := Lib.hid (by rw [hW5]; exact VBox.new _ _ _ _ _)
        have HM := Lib.hid (HM.out.keep b5)
        have HL5 := Lib.hid (HL5.out.keep b5)
        rw [← hW5]
        clear hW5 b5
        generalize w5.heap.size = L at *
        refine (lhLoads_any a1 a2 a3 a4 a5 n1 c1 n2 c2 n3 c3 n4 c4 n5 c5 aB k cB s zs (c : Int) W5 (Lib.hid HM.out.rs) (Lib.hid (HZ.out.keep HM.out.bel)) HNB hnB).mono ?_
        rintro e w6 ⟨rfl, hb⟩
        have HM := Lib.hid (HM.out.keep hb)
        have HL5 := Lib.hid (HL5.out.keep hb)
        have HV5 := Lib.hid (HV5.out.keep hb)
        clear hb k0 k1 k2 k3 k4
        go_wp2_with fail
        obtain ⟨W6, hW6⟩ : ∃ W6, W6 = w6.alloc (.cells #[.int .i64 (lodF s zs (c : Int) 0), .int .i64 (lodF s zs (c : Int) 1), .int .i64 (lodF s zs (c : Int) 2)] 50) := ⟨_, rfl⟩
        have b6 : Below w6.heap.size w6 W6 := by rw [hW6]; exact (Below.refl _ w6).alloc (Nat.le_refl _) _
        have HV6 : Hid (VBox W6 w6.heap.size (lodF s zs (c : Int) 0) (lodF s zs (c : Int) 1) (lodF s zs (c : Int) 2)) := Lib.hid (by rw [hW6]; exact VBox.new _ _ _ _ _)
        have HM := Lib.hid (HM.out.keep b6)
        have HL5 := Lib.hid (HL5.out.keep b6)
        have HV5 := Lib.hid (HV5.out.keep b6)
        rw [← hW6]
        clear hW6 b6
        generalize w6.heap.size = M at *
        obtain ⟨most, hmost⟩ : ∃ m, m = limAt s c := ⟨_, rfl⟩
        rw [← hmost]
        have HMO := Lib.hid hmost
        clear hmost
        go_loopg [17] 3 (fun g2 v17 wq => ∃ p : Nat, v17 = .int .i64 p ∧ p ≤ 3 ∧ 3 - p ≤ g2 ∧ Hid (∀ i, i < p → 2 * lodF s xs (c : Int) i ≤ most ∧ 2 * lodF s zs (c : Int) i ≤ most) ∧ W6 = wq)
        case atStart => exact ⟨0, by go_num, by omega, by omega, Lib.hid (fun i hi => by omega), rfl⟩
        case round =>
          obtain ⟨p, rfl, hp, hg2, HA2, rfl⟩ := hrel
          by_cases hlp : p < 3
          · have hlpz : (p : Int) < 3 := by omega
            have hld : W6.cell? ⟨L, p, none⟩ = some (.int .i64 (lodF s xs (c : Int) p)) := by
              obtain ⟨h0, h1, h2⟩ := HV5.out
              match p, hlp with
              | 0, _ => exact h0
              | 1, _ => exact h1
              | 2, _ => exact h2
            have hle : W6.cell? ⟨M, p, none⟩ = some (.int .i64 (lodF s zs (c : Int) p)) := by
              obtain ⟨h0, h1, h2⟩ := HV6.out
              match p, hlp with
              | 0, _ => exact h0
              | 1, _ => exact h1
              | 2, _ => exact h2
            have hba := loadS_bd (s := s) (am := fI xs) (m := s.chgs.length) (fun i hi => HCU.out.2 i (by rw [HCU.out.1]; exact hi)) (c * 3 + p)
            have hbb := loadS_bd (s := s) (am := fI zs) (m := s.chgs.length) (fun i hi => HCZ.out.2 i (by rw [HCZ.out.1]; exact hi)) (c * 3 + p)
            rw [← HLE.out] at hba
            rw [← HLF.out] at hbb
            have hc16 := HC16.out
            obtain ⟨la, hla⟩ : ∃ l, l = lodF s xs (c : Int) p := ⟨_, rfl⟩
            obtain ⟨lb, hlb⟩ : ∃ l, l = lodF s zs (c : Int) p := ⟨_, rfl⟩
            rw [← hla] at hld hba
            rw [← hlb] at hle hbb
            have HLA := Lib.hid (And.intro hla hlb)
            have hwa : IntKind.i64.wrap (2 * la) = 2 * la := IntWalk.i64_in _ (by omega)
            have hwb : IntKind.i64.wrap (2 * lb) = 2 * lb := IntWalk.i64_in _ (by omega)
            clear hla hlb hba hbb hc16
            by_cases hga : most < 2 * la
            · go_wp2_with fail
              go_ret
              exact ⟨rfl, HM.out.bel⟩
            by_cases hgb : most < 2 * lb
            · go_wp2_with fail
              go_ret
              exact ⟨rfl, HM.out.bel⟩
            have HNX : Hid (∀ i, i < p + 1 → 2 * lodF s xs (c : Int) i ≤ most ∧ 2 * lodF s zs (c : Int) i ≤ most) := Lib.hid (fun i hi => by
              rcases Nat.lt_succ_iff_lt_or_eq.1 hi with h | h
              · exact HA2.out i h
              · rw [h, ← HLA.out.1, ← HLA.out.2]; omega)
            go_wp2_with fail
            go_roundg (3 - (p + 1))
            case measure => omega
            case rel => exact ⟨p + 1, by go_num, by omega, by omega, HNX, rfl⟩
          · have hlpz : ¬ (p : Int) < 3 := by omega
            have hp3 : p = 3 := by omega
            subst hp3
            have HNX : Hid (∀ t, t < (c + 1) * 3 → 2 * loadS s (fI xs) s.chgs.length t ≤ limAt s (t / 3) ∧ 2 * loadS s (fI zs) s.chgs.length t ≤ limAt s (t / 3)) := Lib.hid (fun t ht => by
              rcases Nat.lt_or_ge t (c * 3) with h | h
              · exact HA.out t h
              · have h2 := HA2.out (t - c * 3) (by omega)
                rw [HLE.out, HLF.out, show c * 3 + (t - c * 3) = t by omega, HMO.out] at h2
                rw [show t / 3 = c by omega]
                exact h2)
            go_wp2_with fail
            go_roundg (n1 - (c + 1))
            case measure => omega
            case rel => exact ⟨c + 1, by go_num, by omega, by omega, HNX, HM, HL5⟩
      · have hltz : ¬ (c : Int) < (n1 : Int) := by omega
        have hcn : c = n1 := by omega
        have HSO : Hid (vioO s (plusL xs zs k) = none) := Lib.hid (vio_plus (fun i hi => plusL_at xs zs (by rw [← HNA.out, HCU.out.1]; exact hi)) (fun t ht => HA.out t (by rw [HCL.out] at ht; omega)))
        obtain ⟨ay, cy, hv, hr⟩ := HL5.out.rd
        rw [plusL_len] at hv
        have HR := Lib.hid hr
        subst hv
        clear hr HL5 hcn
        go_wp2_with fail
        refine (limCheck_any a1 a2 a3 a4 a5 n1 c1 n2 c2 n3 c3 n4 c4 n5 c5 ay k cy s (plusL xs zs k) wr (Lib.hid HM.out.rs) HR (Lib.hid (plusL_len _ _ _)) (by omega)).mono ?_
        rintro e w7 ⟨rfl, hb⟩
        have HM := Lib.hid (HM.out.keep hb)
        rw [HSO.out]
        clear hb k0 k1 k2 k3 k4
        have HBF : Hid (Below w.heap.size w (w7.alloc (.cells #[.int .i64 0, .int .i64 0, .int .i64 0] 39))) := Lib.hid (HM.out.bel.alloc HM.out.bel.size _)
        unfold vioV
        generalize errO (loadB s (plusL xs zs k)) = er
        by_cases her : er = 0
        · subst her
          go_wp2_with fail
          go_ret
          exact ⟨rfl, HBF.out⟩
        · have h1 : (er != 0) = true := by simpa using her
          have h2 : decide (er = 0) = false := by simpa using her
          go_wp2_with fail
          go_ret
          exact ⟨rfl, HBF.out⟩
end Go.Proofs.Ytmplageajlhpbaa
