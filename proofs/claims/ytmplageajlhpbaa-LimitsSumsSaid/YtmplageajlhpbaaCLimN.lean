/-
LimitsLess, walked.
-/
import Derived.Test.YtmplageajlhpbaaCLimM
import Derived.Test.YtmplageajlhpbaaCOpenS
namespace Go.Proofs.Ytmplageajlhpbaa
open Go.RowKit
set_option linter.unusedVariables false
set_option linter.unusedSimpArgs false
def lessL (xs bs : List Int) (k : Nat) : List Int := (List.range k).map (fun i => max 0 (fI xs i - fI bs i))
theorem lessL_len (xs bs : List Int) (k : Nat) : (lessL xs bs k).length = k := by unfold lessL; simp
theorem lessL_at (xs bs : List Int) {k i : Nat} (hi : i < k) : fI (lessL xs bs k) i = max 0 (fI xs i - fI bs i) := by
  unfold lessL fI
  rw [List.getElem?_map, List.getElem?_range hi]
  rfl
theorem lessL_succ (xs bs : List Int) (k : Nat) : lessL xs bs (k + 1) = lessL xs bs k ++ [max 0 (fI xs k - fI bs k)] := by
  unfold lessL
  rw [List.range_succ, List.map_append]
  rfl
theorem loadS_le (s : GSite) (f g : Nat → Int) (j : Nat) : ∀ m : Nat, (∀ i, i < m → f i ≤ g i) → loadS s f m j ≤ loadS s g m j
  | 0, _ => by rw [loadS_zero, loadS_zero]; exact Int.le_refl _
  | m + 1, h => by
    have ih := loadS_le s f g j m (fun i hi => h i (by omega))
    have h1 := h m (by omega)
    unfold loadS at *
    rw [S_succ, S_succ]
    by_cases e : onB s m (j / 3) (j % 3) = true
    · rw [pick_pos e, pick_pos e]; omega
    · rw [pick_neg e, pick_neg e]; omega
theorem vio_less {s : GSite} {xs ys : List Int} (hx : loadB s xs = true) (hy : loadB s ys = true) (h : ∀ i, i < s.chgs.length → fI ys i ≤ fI xs i) (hn : (vioO s xs).isSome = false) : (vioO s ys).isSome = false := by
  unfold vioO at hn
  rw [if_pos hx] at hn
  have h1 := List.find?_eq_none.1 (Option.isSome_eq_false_iff.1 hn |> Option.isNone_iff_eq_none.1)
  rw [vioO_all hy (fun t ht => ?_)]
  · rfl
  · have h2 := h1 t (List.mem_range.2 ht)
    unfold chkL at h2 ⊢
    have h3 := loadS_le s (fI ys) (fI xs) t s.chgs.length h
    simp only [decide_eq_true_eq] at h2
    simp only [decide_eq_false_iff_not]
    omega
theorem vio_agg (s : GSite) (xs : List Int) : ∃ v0 v1 v2, vioV s xs (vioO s xs) = .agg #[.int .i64 v0, .int .i64 v1, .int .i64 v2] := by
  cases vioO s xs
  · exact ⟨_, _, _, rfl⟩
  · exact ⟨_, _, _, rfl⟩
theorem u8_bdN {bs : List Int} (h : ∀ x, x ∈ bs → (Lit.int .u8 x).wf = true) (i : Nat) : 0 ≤ fI bs i ∧ fI bs i ≤ 255 := by
  unfold fI
  cases hg : bs[i]? with
  | none => simp
  | some x =>
    have hx := h x (List.mem_of_getElem? hg)
    simp [Lit.wf, IntKind.min, IntKind.max, IntKind.signed, IntKind.bits] at hx
    simpa using hx
theorem rd_u8 {w : World} {A : Option Addr} {xs : List Int} (h : Rd 1 encU8 w A xs) {k : Nat} (hk : k < xs.length) : ∃ b off, A = some ⟨b, off, none⟩ ∧ b < w.heap.size ∧ w.cell? ⟨b, off + k, none⟩ = some (.int .u8 (fI xs k)) := by
  obtain ⟨b, off, x, hA, hb, hx, hc⟩ := h.at_ hk
  have h1 := hc 0 (.int .u8 x) rfl
  rw [Nat.mul_one, Nat.add_zero] at h1
  refine ⟨b, off, hA, hb, ?_⟩
  unfold fI
  rw [hx]
  exact h1
set_option maxRecDepth 100000 in
set_option maxHeartbeats 8000000 in
theorem walk_LimitsLess (a1 : Option Addr) (n1 c1 : Nat) (a2 : Option Addr) (n2 c2 : Nat) (a3 : Option Addr) (n3 c3 : Nat) (a4 : Option Addr) (n4 c4 : Nat) (a5 : Option Addr) (n5 c5 : Nat) (s : GSite) {w : World} (HS : Hid (RdSite w a1 a2 a3 a4 a5 n1 n2 n3 n4 n5 s)) (_ : WfSite s) (aA : Option Addr) (cA nA : Nat) (xs : List Int) (hX : Rd 1 encI w aA xs) (HNA : Hid (xs.length = nA)) (hnA : nA ≤ 9223372036854775807) (_ : ∀ x, x ∈ xs → wfI64 x) (B1 : Option Addr) (d1 e1 : Nat) (bs : List Int) (hX1 : Rd 1 encU8 w B1 bs) (HN1 : Hid (bs.length = e1)) (he1 : e1 ≤ 9223372036854775807) (hw1 : ∀ x, x ∈ bs → (Lit.int .u8 x).wf = true) :
    Calls Try.prog 5 #[.agg #[.slice a1 n1 c1, .slice a2 n2 c2, .slice a3 n3 c3, .slice a4 n4 c4, .slice a5 n5 c5], .slice aA nA cA, .slice B1 e1 d1] w fun e w' => e = .returned (.bool true) ∧ Below w.heap.size w w' := by
  have HX := Lib.hid hX
  have HX1 := Lib.hid hX1
  have HW1 := Lib.hid hw1
  have HM0 := Lib.hid (LwM.box (c1 := c1) (c2 := c2) (c3 := c3) (c4 := c4) (c5 := c5) HS.out)
  clear hX hX1 hw1
  go_enter Try.func5, Try.ntmps5
  go_wp2_with fail
  refine (lhHead_any _).mono ?_
  rintro e w1 ⟨rfl, hb⟩
  have HM := Lib.hid (HM0.out.keep hb)
  generalize hXX : w.heap.size = X at HM ⊢
  have hlX : X < w1.heap.size := World.block_lt_of_cell? w1 _ HM.out.k0
  have HSZ := Lib.hid hXX
  clear hb HM0 hXX
  obtain ⟨k0, k1, k2, k3, k4⟩ : w1.cell? ⟨X, 0, none⟩ = some (.slice a1 n1 c1) ∧ w1.cell? ⟨X, 1, none⟩ = some (.slice a2 n2 c2) ∧ w1.cell? ⟨X, 2, none⟩ = some (.slice a3 n3 c3) ∧ w1.cell? ⟨X, 3, none⟩ = some (.slice a4 n4 c4) ∧ w1.cell? ⟨X, 4, none⟩ = some (.slice a5 n5 c5) := ⟨HM.out.k0, HM.out.k1, HM.out.k2, HM.out.k3, HM.out.k4⟩
  go_wp2_with fail
  refine (lhValid_any a1 a2 a3 a4 a5 n1 c1 n2 c2 n3 c3 n4 c4 n5 c5 aA nA cA s xs w1 (Lib.hid HM.out.rs) (Lib.hid (HX.out.keep HM.out.bel)) HNA hnA).mono ?_
  rintro e w2 ⟨rfl, hb⟩
  have HM := Lib.hid (HM.out.keep hb)
  have hlX : X < w2.heap.size := World.block_lt_of_cell? w2 _ HM.out.k0
  clear hb k0 k1 k2 k3 k4
  obtain ⟨k0, k1, k2, k3, k4⟩ : w2.cell? ⟨X, 0, none⟩ = some (.slice a1 n1 c1) ∧ w2.cell? ⟨X, 1, none⟩ = some (.slice a2 n2 c2) ∧ w2.cell? ⟨X, 2, none⟩ = some (.slice a3 n3 c3) ∧ w2.cell? ⟨X, 3, none⟩ = some (.slice a4 n4 c4) ∧ w2.cell? ⟨X, 4, none⟩ = some (.slice a5 n5 c5) := ⟨HM.out.k0, HM.out.k1, HM.out.k2, HM.out.k3, HM.out.k4⟩
  cases hv : lhB s xs
  · go_wp2_with fail
    go_ret
    exact ⟨rfl, HM.out.bel⟩
  have HLB := Lib.hid (lhB_load hv)
  clear hv
  by_cases hlen : e1 < nA
  · have hlz : (e1 : Int) < (nA : Int) := by omega
    go_wp2_with fail
    go_ret
    exact ⟨rfl, HM.out.bel⟩
  have hlz : ¬ (e1 : Int) < (nA : Int) := by omega
  go_wp2_with fail
  have HCU : Hid (xs.length = s.chgs.length ∧ ∀ i, i < xs.length → 0 ≤ fI xs i ∧ fI xs i ≤ 80) := Lib.hid (by
    have h := HLB.out
    unfold loadB at h
    rw [Bool.and_eq_true] at h
    exact curB_iff.1 h.2)
  have hnA16 : nA ≤ 16 := by
    have h := HLB.out
    unfold loadB at h
    rw [Bool.and_eq_true] at h
    have h1 := (okSB_iff.1 h.1).n5
    have h2 := HCU.out.1
    rw [HNA.out] at h2
    omega
  refine (limCheck_any a1 a2 a3 a4 a5 n1 c1 n2 c2 n3 c3 n4 c4 n5 c5 aA nA cA s xs w2 (Lib.hid HM.out.rs) (Lib.hid (HX.out.keep HM.out.bel)) HNA (by omega)).mono ?_
  rintro e w3 ⟨rfl, hb⟩
  have HM := Lib.hid (HM.out.keep hb)
  have hlX : X < w3.heap.size := World.block_lt_of_cell? w3 _ HM.out.k0
  clear hb k0 k1 k2 k3 k4
  obtain ⟨v0, v1, v2, hv⟩ := vio_agg s xs
  rw [hv, HLB.out, errT]
  generalize hq : (vioO s xs).isSome = q
  have HQ := Lib.hid hq
  clear hq hv
  go_wp2_with fail
  obtain ⟨W3, hW3⟩ : ∃ W3, W3 = w3.alloc (.cells #[.int .i64 v0, .int .i64 v1, .int .i64 v2] 39) := ⟨_, rfl⟩
  have HB3 : Hid (Below w3.heap.size w3 W3) := Lib.hid (by rw [hW3]; exact (Below.refl _ w3).alloc (Nat.le_refl _) _)
  rw [← hW3]
  clear hW3
  go_loopg [12, 13] nA (fun g1 v12 v13 wr => ∃ k : Nat, v13 = .int .i64 k ∧ k ≤ nA ∧ nA - k ≤ g1 ∧ Hid (OwnL wr w3.heap.size v12 (lessL xs bs k)) ∧ Hid (Below w3.heap.size w3 wr))
  case atStart => exact ⟨0, by go_num, by omega, by omega, Lib.hid (OwnL.nil _ _), HB3⟩
  case round =>
    obtain ⟨k, rfl, hk, hg1, HL5, HB⟩ := hrel
    clear HB3
    have hwr := HB.out.size
    by_cases hlt : k < nA
    · have hltz : (k : Int) < (nA : Int) := by omega
      have hlt1z : (k : Int) < (e1 : Int) := by omega
      obtain ⟨b, off, hA, hbl, hc⟩ := HX.out.int (k := k) (by rw [HNA.out]; exact hlt)
      obtain ⟨b', off', hA', hbl', hc'⟩ := rd_u8 HX1.out (k := k) (by rw [HN1.out]; omega)
      have hBw : Below w.heap.size w wr := below_then HM.out.bel HB.out
      have hx : wr.cell? ⟨b, off + k, none⟩ = some (.int .i64 (fI xs k)) := (hBw.cell (p := ⟨b, off + k, none⟩) hbl).trans hc
      have hy : wr.cell? ⟨b', off' + k, none⟩ = some (.int .u8 (fI bs k)) := (hBw.cell (p := ⟨b', off' + k, none⟩) hbl').trans hc'
      have hxb := HCU.out.2 k (by rw [HNA.out]; exact hlt)
      have hyb := u8_bdN HW1.out k
      have HSU := Lib.hid (lessL_succ xs bs k)
      have hll : (lessL xs bs k).length ≤ 1000000 := by rw [lessL_len]; omega
      subst hA hA'
      clear hc hc' hbl hbl' hBw
      generalize fI xs k = x at *
      generalize fI bs k = y at *
      have hsum : IntKind.i64.wrap (x - y) = x - y := IntWalk.i64_in _ (by omega)
      have hwy : IntKind.i64.wrap y = y := IntWalk.i64_in _ (by omega)
      obtain ⟨z, hz⟩ : ∃ z, z = max 0 (x - y) := ⟨_, rfl⟩
      rw [← hz] at HSU
      have HQZ := Lib.hid hz
      rcases (show (y < x ∧ z = x - y) ∨ (¬ y < x ∧ z = 0) from by omega) with ⟨hxy, hmx⟩ | ⟨hxy, hmx⟩
      · clear hz HQZ
        subst hmx
        go_wp2_with fail
        refine region_z (S := fun w' => w'.cell? ⟨b, off + k, none⟩ = some (.int .i64 x) ∧ w'.cell? ⟨b', off' + k, none⟩ = some (.int .u8 y)) [13, 14] (by kernel_rfl) ⟨hx, hy⟩ (fun hHeld => ?_)
        obtain ⟨wd, hwd⟩ : ∃ wd, wd = wr.drew := ⟨_, rfl⟩
        have HLd : Hid (OwnL wd w3.heap.size u12 (lessL xs bs k)) := Lib.hid (by rw [hwd]; exact HL5.out.keep (below_drew wr))
        have HBd : Hid (Below w3.heap.size w3 wd) := Lib.hid (by rw [hwd]; exact below_then HB.out (below_drew wr))
        rw [← hwd] at hHeld ⊢
        clear hwd hx hy HL5 HB hwr
        refine wpAnyZ_take (i := 0) (v := u12) [13, 14] rfl (by kernel_rfl) (by kernel_rfl) (by kernel_rfl) (by kernel_rfl) (fun _ _ _ h => h) (Or.inl ⟨by rfl, fun w' hSw => ?_⟩) hHeld ?_
        · obtain ⟨s0, s1⟩ := hSw
          clear hHeld
          go_simp
        simp only [Act.put, List.getElem_toArray, List.getElem_cons_zero, List.getElem_cons_succ, List.setIfInBounds_toArray, List.set_cons_zero, List.set_cons_succ]
        refine wpAnyZ_take (i := 1) (v := .slice (some ⟨b, off, none⟩) nA cA) [3, 4, 10, 11, 12, 13, 14] rfl (by kernel_rfl) (by kernel_rfl) (by kernel_rfl) (by kernel_rfl) (fun _ _ _ h => h) (Or.inl ⟨by rfl, fun w' hSw => ?_⟩) hHeld ?_
        · obtain ⟨s0, s1⟩ := hSw
          clear hHeld
          go_simp
        simp only [Act.put, List.getElem_toArray, List.getElem_cons_zero, List.getElem_cons_succ, List.setIfInBounds_toArray, List.set_cons_zero, List.set_cons_succ]
        refine wpAnyZ_take (i := 2) (v := .int .i64 (k : Nat)) [3, 4, 10, 11, 12, 13, 14] rfl (by kernel_rfl) (by kernel_rfl) (by kernel_rfl) (by kernel_rfl) (fun _ _ _ h => h) (Or.inl ⟨by rfl, fun w' hSw => ?_⟩) hHeld ?_
        · obtain ⟨s0, s1⟩ := hSw
          clear hHeld
          go_simp
        simp only [Act.put, List.getElem_toArray, List.getElem_cons_zero, List.getElem_cons_succ, List.setIfInBounds_toArray, List.set_cons_zero, List.set_cons_succ]
        refine wpAnyZ_take (i := 3) (v := .pointer (some ⟨b, off + k, none⟩)) [4, 10, 11, 12, 13, 14] rfl (by kernel_rfl) (by kernel_rfl) (by kernel_rfl) (by kernel_rfl) (fun _ _ _ h => h) (Or.inl ⟨by rfl, fun w' hSw => ?_⟩) hHeld ?_
        · obtain ⟨s0, s1⟩ := hSw
          clear hHeld
          go_simp
        simp only [Act.put, List.getElem_toArray, List.getElem_cons_zero, List.getElem_cons_succ, List.setIfInBounds_toArray, List.set_cons_zero, List.set_cons_succ]
        refine wpAnyZ_take (i := 4) (v := .int .i64 x) [10, 11, 12, 13, 14] rfl (by kernel_rfl) (by kernel_rfl) (by kernel_rfl) (by kernel_rfl) (fun _ _ _ h => h) (Or.inl ⟨by rfl, fun w' hSw => ?_⟩) hHeld ?_
        · obtain ⟨s0, s1⟩ := hSw
          clear hHeld
          go_simp
        simp only [Act.put, List.getElem_toArray, List.getElem_cons_zero, List.getElem_cons_succ, List.setIfInBounds_toArray, List.set_cons_zero, List.set_cons_succ]
        refine wpAnyZ_take (i := 5) (v := .slice (some ⟨b', off', none⟩) e1 d1) [7, 8, 9, 10, 11, 12, 13, 14] rfl (by kernel_rfl) (by kernel_rfl) (by kernel_rfl) (by kernel_rfl) (fun _ _ _ h => h) (Or.inl ⟨by rfl, fun w' hSw => ?_⟩) hHeld ?_
        · obtain ⟨s0, s1⟩ := hSw
          clear hHeld
          go_simp
        simp only [Act.put, List.getElem_toArray, List.getElem_cons_zero, List.getElem_cons_succ, List.setIfInBounds_toArray, List.set_cons_zero, List.set_cons_succ]
        refine wpAnyZ_take (i := 6) (v := .int .i64 (k : Nat)) [7, 8, 9, 10, 11, 12, 13, 14] rfl (by kernel_rfl) (by kernel_rfl) (by kernel_rfl) (by kernel_rfl) (fun _ _ _ h => h) (Or.inl ⟨by rfl, fun w' hSw => ?_⟩) hHeld ?_
        · obtain ⟨s0, s1⟩ := hSw
          clear hHeld
          go_simp
        simp only [Act.put, List.getElem_toArray, List.getElem_cons_zero, List.getElem_cons_succ, List.setIfInBounds_toArray, List.set_cons_zero, List.set_cons_succ]
        refine wpAnyZ_take (i := 7) (v := .pointer (some ⟨b', off' + k, none⟩)) [8, 9, 10, 11, 12, 13, 14] rfl (by kernel_rfl) (by kernel_rfl) (by kernel_rfl) (by kernel_rfl) (fun _ _ _ h => h) (Or.inl ⟨by rfl, fun w' hSw => ?_⟩) hHeld ?_
        · obtain ⟨s0, s1⟩ := hSw
          clear hHeld
          go_simp
        simp only [Act.put, List.getElem_toArray, List.getElem_cons_zero, List.getElem_cons_succ, List.setIfInBounds_toArray, List.set_cons_zero, List.set_cons_succ]
        refine wpAnyZ_take (i := 8) (v := .int .u8 y) [9, 10, 11, 12, 13, 14] rfl (by kernel_rfl) (by kernel_rfl) (by kernel_rfl) (by kernel_rfl) (fun _ _ _ h => h) (Or.inl ⟨by rfl, fun w' hSw => ?_⟩) hHeld ?_
        · obtain ⟨s0, s1⟩ := hSw
          clear hHeld
          go_simp
        simp only [Act.put, List.getElem_toArray, List.getElem_cons_zero, List.getElem_cons_succ, List.setIfInBounds_toArray, List.set_cons_zero, List.set_cons_succ]
        refine wpAnyZ_take (i := 9) (v := .int .i64 y) [10, 11, 12, 13, 14] rfl (by kernel_rfl) (by kernel_rfl) (by kernel_rfl) (by kernel_rfl) (fun _ _ _ h => h) (Or.inl ⟨by rfl, fun w' hSw => ?_⟩) hHeld ?_
        · obtain ⟨s0, s1⟩ := hSw
          clear hHeld
          go_simp
        simp only [Act.put, List.getElem_toArray, List.getElem_cons_zero, List.getElem_cons_succ, List.setIfInBounds_toArray, List.set_cons_zero, List.set_cons_succ]
        refine wpAnyZ_take (i := 10) (v := .int .i64 (x - y)) [11, 12, 13, 14] rfl (by kernel_rfl) (by kernel_rfl) (by kernel_rfl) (by kernel_rfl) (fun _ _ _ h => h) (Or.inl ⟨by rfl, fun w' hSw => ?_⟩) hHeld ?_
        · obtain ⟨s0, s1⟩ := hSw
          clear hHeld
          go_simp
        simp only [Act.put, List.getElem_toArray, List.getElem_cons_zero, List.getElem_cons_succ, List.setIfInBounds_toArray, List.set_cons_zero, List.set_cons_succ]
        refine wpAnyZ_take (i := 11) (v := .int .i64 (x - y)) [12, 13, 14] rfl (by kernel_rfl) (by kernel_rfl) (by kernel_rfl) (by kernel_rfl) (fun _ _ _ h => h) (Or.inl ⟨by rfl, fun w' hSw => ?_⟩) hHeld ?_
        · obtain ⟨s0, s1⟩ := hSw
          clear hHeld
          go_simp
          all_goals (first | omega | (intro hh; omega))
        simp only [Act.put, List.getElem_toArray, List.getElem_cons_zero, List.getElem_cons_succ, List.setIfInBounds_toArray, List.set_cons_zero, List.set_cons_succ]
        obtain ⟨ap, v', w4, ap1, ap2, ap3, ap4, ap5⟩ := app_int (x - y) (w := wd) HLd.out HBd.out.size hll
        have HLK : Hid (OwnL w4 w3.heap.size v' (lessL xs bs (k + 1))) := Lib.hid (by rw [HSU.out]; exact ap3)
        have HB4 : Hid (Below w3.heap.size w3 w4) := Lib.hid (HBd.out.trans (OwnL.below HLd.out ap4 HBd.out.size))
        clear ap3 ap4 ap5
        refine wpAnyZ_one (i := 12) (by kernel_rfl) rfl (fun K' hK => ?_)
        go_simp
        refine hK.out _ _ ?_ (fun hHeld' => ?_)
        · obtain ⟨s0, s1⟩ := hHeld
          exact ⟨(((Below.refl wd.heap.size wd).alloc (Nat.le_refl _) _).cell (World.block_lt_of_cell? _ _ s0)).trans s0, (((Below.refl wd.heap.size wd).alloc (Nat.le_refl _) _).cell (World.block_lt_of_cell? _ _ s1)).trans s1⟩
        clear hK K' hHeld hHeld'
        try simp only [Act.put, List.getElem_toArray, List.getElem_cons_zero, List.getElem_cons_succ, List.setIfInBounds_toArray, List.set_cons_zero, List.set_cons_succ]
        refine wpAnyZ_last (i := 13) (by kernel_rfl) rfl (by kernel_rfl) (fun K' hK => ?_)
        rw [if_pos (by rfl)]
        refine append_go rfl rfl ap ap1 ap2 ?_
        refine hK.out _ _ ?_
        clear hK K'
        try simp only [Act.put, List.getElem_toArray, List.getElem_cons_zero, List.getElem_cons_succ, List.setIfInBounds_toArray, List.set_cons_zero, List.set_cons_succ]
        refine wpAnyZ_last (i := 14) (by kernel_rfl) rfl (by kernel_rfl) (fun K' hK => ?_)
        go_simp
        refine hK.out _ _ ?_
        clear hK K' ap ap1 ap2
        try simp only [Act.put, List.getElem_toArray, List.getElem_cons_zero, List.getElem_cons_succ, List.setIfInBounds_toArray, List.set_cons_zero, List.set_cons_succ]
        refine wpAnyZ_done (by kernel_rfl) ?_ _
        go_wp2_with fail
        go_roundg (nA - (k + 1))
        case measure => omega
        case rel => exact ⟨k + 1, by go_num, by omega, by omega, HLK, HB4⟩
      · clear hz HQZ
        subst hmx
        go_wp2_with fail
        refine region_z (S := fun w' => w'.cell? ⟨b, off + k, none⟩ = some (.int .i64 x) ∧ w'.cell? ⟨b', off' + k, none⟩ = some (.int .u8 y)) [13, 14] (by kernel_rfl) ⟨hx, hy⟩ (fun hHeld => ?_)
        obtain ⟨wd, hwd⟩ : ∃ wd, wd = wr.drew := ⟨_, rfl⟩
        have HLd : Hid (OwnL wd w3.heap.size u12 (lessL xs bs k)) := Lib.hid (by rw [hwd]; exact HL5.out.keep (below_drew wr))
        have HBd : Hid (Below w3.heap.size w3 wd) := Lib.hid (by rw [hwd]; exact below_then HB.out (below_drew wr))
        rw [← hwd] at hHeld ⊢
        clear hwd hx hy HL5 HB hwr
        refine wpAnyZ_take (i := 0) (v := u12) [13, 14] rfl (by kernel_rfl) (by kernel_rfl) (by kernel_rfl) (by kernel_rfl) (fun _ _ _ h => h) (Or.inl ⟨by rfl, fun w' hSw => ?_⟩) hHeld ?_
        · obtain ⟨s0, s1⟩ := hSw
          clear hHeld
          go_simp
        simp only [Act.put, List.getElem_toArray, List.getElem_cons_zero, List.getElem_cons_succ, List.setIfInBounds_toArray, List.set_cons_zero, List.set_cons_succ]
        refine wpAnyZ_take (i := 1) (v := .slice (some ⟨b, off, none⟩) nA cA) [3, 4, 10, 11, 12, 13, 14] rfl (by kernel_rfl) (by kernel_rfl) (by kernel_rfl) (by kernel_rfl) (fun _ _ _ h => h) (Or.inl ⟨by rfl, fun w' hSw => ?_⟩) hHeld ?_
        · obtain ⟨s0, s1⟩ := hSw
          clear hHeld
          go_simp
        simp only [Act.put, List.getElem_toArray, List.getElem_cons_zero, List.getElem_cons_succ, List.setIfInBounds_toArray, List.set_cons_zero, List.set_cons_succ]
        refine wpAnyZ_take (i := 2) (v := .int .i64 (k : Nat)) [3, 4, 10, 11, 12, 13, 14] rfl (by kernel_rfl) (by kernel_rfl) (by kernel_rfl) (by kernel_rfl) (fun _ _ _ h => h) (Or.inl ⟨by rfl, fun w' hSw => ?_⟩) hHeld ?_
        · obtain ⟨s0, s1⟩ := hSw
          clear hHeld
          go_simp
        simp only [Act.put, List.getElem_toArray, List.getElem_cons_zero, List.getElem_cons_succ, List.setIfInBounds_toArray, List.set_cons_zero, List.set_cons_succ]
        refine wpAnyZ_take (i := 3) (v := .pointer (some ⟨b, off + k, none⟩)) [4, 10, 11, 12, 13, 14] rfl (by kernel_rfl) (by kernel_rfl) (by kernel_rfl) (by kernel_rfl) (fun _ _ _ h => h) (Or.inl ⟨by rfl, fun w' hSw => ?_⟩) hHeld ?_
        · obtain ⟨s0, s1⟩ := hSw
          clear hHeld
          go_simp
        simp only [Act.put, List.getElem_toArray, List.getElem_cons_zero, List.getElem_cons_succ, List.setIfInBounds_toArray, List.set_cons_zero, List.set_cons_succ]
        refine wpAnyZ_take (i := 4) (v := .int .i64 x) [10, 11, 12, 13, 14] rfl (by kernel_rfl) (by kernel_rfl) (by kernel_rfl) (by kernel_rfl) (fun _ _ _ h => h) (Or.inl ⟨by rfl, fun w' hSw => ?_⟩) hHeld ?_
        · obtain ⟨s0, s1⟩ := hSw
          clear hHeld
          go_simp
        simp only [Act.put, List.getElem_toArray, List.getElem_cons_zero, List.getElem_cons_succ, List.setIfInBounds_toArray, List.set_cons_zero, List.set_cons_succ]
        refine wpAnyZ_take (i := 5) (v := .slice (some ⟨b', off', none⟩) e1 d1) [7, 8, 9, 10, 11, 12, 13, 14] rfl (by kernel_rfl) (by kernel_rfl) (by kernel_rfl) (by kernel_rfl) (fun _ _ _ h => h) (Or.inl ⟨by rfl, fun w' hSw => ?_⟩) hHeld ?_
        · obtain ⟨s0, s1⟩ := hSw
          clear hHeld
          go_simp
        simp only [Act.put, List.getElem_toArray, List.getElem_cons_zero, List.getElem_cons_succ, List.setIfInBounds_toArray, List.set_cons_zero, List.set_cons_succ]
        refine wpAnyZ_take (i := 6) (v := .int .i64 (k : Nat)) [7, 8, 9, 10, 11, 12, 13, 14] rfl (by kernel_rfl) (by kernel_rfl) (by kernel_rfl) (by kernel_rfl) (fun _ _ _ h => h) (Or.inl ⟨by rfl, fun w' hSw => ?_⟩) hHeld ?_
        · obtain ⟨s0, s1⟩ := hSw
          clear hHeld
          go_simp
        simp only [Act.put, List.getElem_toArray, List.getElem_cons_zero, List.getElem_cons_succ, List.setIfInBounds_toArray, List.set_cons_zero, List.set_cons_succ]
        refine wpAnyZ_take (i := 7) (v := .pointer (some ⟨b', off' + k, none⟩)) [8, 9, 10, 11, 12, 13, 14] rfl (by kernel_rfl) (by kernel_rfl) (by kernel_rfl) (by kernel_rfl) (fun _ _ _ h => h) (Or.inl ⟨by rfl, fun w' hSw => ?_⟩) hHeld ?_
        · obtain ⟨s0, s1⟩ := hSw
          clear hHeld
          go_simp
        simp only [Act.put, List.getElem_toArray, List.getElem_cons_zero, List.getElem_cons_succ, List.setIfInBounds_toArray, List.set_cons_zero, List.set_cons_succ]
        refine wpAnyZ_take (i := 8) (v := .int .u8 y) [9, 10, 11, 12, 13, 14] rfl (by kernel_rfl) (by kernel_rfl) (by kernel_rfl) (by kernel_rfl) (fun _ _ _ h => h) (Or.inl ⟨by rfl, fun w' hSw => ?_⟩) hHeld ?_
        · obtain ⟨s0, s1⟩ := hSw
          clear hHeld
          go_simp
        simp only [Act.put, List.getElem_toArray, List.getElem_cons_zero, List.getElem_cons_succ, List.setIfInBounds_toArray, List.set_cons_zero, List.set_cons_succ]
        refine wpAnyZ_take (i := 9) (v := .int .i64 y) [10, 11, 12, 13, 14] rfl (by kernel_rfl) (by kernel_rfl) (by kernel_rfl) (by kernel_rfl) (fun _ _ _ h => h) (Or.inl ⟨by rfl, fun w' hSw => ?_⟩) hHeld ?_
        · obtain ⟨s0, s1⟩ := hSw
          clear hHeld
          go_simp
        simp only [Act.put, List.getElem_toArray, List.getElem_cons_zero, List.getElem_cons_succ, List.setIfInBounds_toArray, List.set_cons_zero, List.set_cons_succ]
        refine wpAnyZ_take (i := 10) (v := .int .i64 (x - y)) [11, 12, 13, 14] rfl (by kernel_rfl) (by kernel_rfl) (by kernel_rfl) (by kernel_rfl) (fun _ _ _ h => h) (Or.inl ⟨by rfl, fun w' hSw => ?_⟩) hHeld ?_
        · obtain ⟨s0, s1⟩ := hSw
          clear hHeld
          go_simp
        simp only [Act.put, List.getElem_toArray, List.getElem_cons_zero, List.getElem_cons_succ, List.setIfInBounds_toArray, List.set_cons_zero, List.set_cons_succ]
        refine wpAnyZ_take (i := 11) (v := .int .i64 (0)) [12, 13, 14] rfl (by kernel_rfl) (by kernel_rfl) (by kernel_rfl) (by kernel_rfl) (fun _ _ _ h => h) (Or.inl ⟨by rfl, fun w' hSw => ?_⟩) hHeld ?_
        · obtain ⟨s0, s1⟩ := hSw
          clear hHeld
          go_simp
          all_goals (first | omega | (intro hh; omega))
        simp only [Act.put, List.getElem_toArray, List.getElem_cons_zero, List.getElem_cons_succ, List.setIfInBounds_toArray, List.set_cons_zero, List.set_cons_succ]
        obtain ⟨ap, v', w4, ap1, ap2, ap3, ap4, ap5⟩ := app_int (0) (w := wd) HLd.out HBd.out.size hll
        have HLK : Hid (OwnL w4 w3.heap.size v' (lessL xs bs (k + 1))) := Lib.hid (by rw [HSU.out]; exact ap3)
        have HB4 : Hid (Below w3.heap.size w3 w4) := Lib.hid (HBd.out.trans (OwnL.below HLd.out ap4 HBd.out.size))
        clear ap3 ap4 ap5
        refine wpAnyZ_one (i := 12) (by kernel_rfl) rfl (fun K' hK => ?_)
        go_simp
        refine hK.out _ _ ?_ (fun hHeld' => ?_)
        · obtain ⟨s0, s1⟩ := hHeld
          exact ⟨(((Below.refl wd.heap.size wd).alloc (Nat.le_refl _) _).cell (World.block_lt_of_cell? _ _ s0)).trans s0, (((Below.refl wd.heap.size wd).alloc (Nat.le_refl _) _).cell (World.block_lt_of_cell? _ _ s1)).trans s1⟩
        clear hK K' hHeld hHeld'
        try simp only [Act.put, List.getElem_toArray, List.getElem_cons_zero, List.getElem_cons_succ, List.setIfInBounds_toArray, List.set_cons_zero, List.set_cons_succ]
        refine wpAnyZ_last (i := 13) (by kernel_rfl) rfl (by kernel_rfl) (fun K' hK => ?_)
        rw [if_pos (by rfl)]
        refine append_go rfl rfl ap ap1 ap2 ?_
        refine hK.out _ _ ?_
        clear hK K'
        try simp only [Act.put, List.getElem_toArray, List.getElem_cons_zero, List.getElem_cons_succ, List.setIfInBounds_toArray, List.set_cons_zero, List.set_cons_succ]
        refine wpAnyZ_last (i := 14) (by kernel_rfl) rfl (by kernel_rfl) (fun K' hK => ?_)
        go_simp
        refine hK.out _ _ ?_
        clear hK K' ap ap1 ap2
        try simp only [Act.put, List.getElem_toArray, List.getElem_cons_zero, List.getElem_cons_succ, List.setIfInBounds_toArray, List.set_cons_zero, List.set_cons_succ]
        refine wpAnyZ_done (by kernel_rfl) ?_ _
        go_wp2_with fail
        go_roundg (nA - (k + 1))
        case measure => omega
        case rel => exact ⟨k + 1, by go_num, by omega, by omega, HLK, HB4⟩
    · have hltz : ¬ (k : Int) < (nA : Int) := by omega
      have hkn : k = nA := by omega
      subst hkn
      obtain ⟨ay, cy, hv, hr⟩ := HL5.out.rd
      rw [lessL_len] at hv
      have HM2 := Lib.hid (HM.out.keep HB.out)
      have hlX2 : X < wr.heap.size := by omega
      obtain ⟨k0, k1, k2, k3, k4⟩ : wr.cell? ⟨X, 0, none⟩ = some (.slice a1 n1 c1) ∧ wr.cell? ⟨X, 1, none⟩ = some (.slice a2 n2 c2) ∧ wr.cell? ⟨X, 2, none⟩ = some (.slice a3 n3 c3) ∧ wr.cell? ⟨X, 3, none⟩ = some (.slice a4 n4 c4) ∧ wr.cell? ⟨X, 4, none⟩ = some (.slice a5 n5 c5) := ⟨HM2.out.k0, HM2.out.k1, HM2.out.k2, HM2.out.k3, HM2.out.k4⟩
      have HYB : Hid (loadB s (lessL xs bs k) = true) := Lib.hid (by
        have h := HLB.out
        unfold loadB at h
        rw [Bool.and_eq_true] at h
        refine loadB_yes h.1 (curB_iff.2 ⟨by rw [lessL_len, ← HCU.out.1, HNA.out], fun i hi => ?_⟩)
        rw [lessL_len] at hi
        rw [lessL_at xs bs hi]
        have h1 := HCU.out.2 i (by rw [HNA.out]; exact hi)
        have h2 := u8_bdN HW1.out i
        omega)
      have HLE : Hid (q = false → (vioO s (lessL xs bs k)).isSome = false) := Lib.hid (fun hq => vio_less HLB.out HYB.out (fun i hi => by
        have hi' : i < k := by rw [← HNA.out, HCU.out.1]; exact hi
        rw [lessL_at xs bs hi']
        have h1 := HCU.out.2 i (by rw [HNA.out]; exact hi')
        have h2 := u8_bdN HW1.out i
        omega) (by rw [HQ.out]; exact hq))
      subst hv
      have HR := Lib.hid hr
      clear hr HL5
      go_wp2_with fail
      refine (limCheck_any a1 a2 a3 a4 a5 n1 c1 n2 c2 n3 c3 n4 c4 n5 c5 ay k cy s (lessL xs bs k) wr (Lib.hid HM2.out.rs) HR (Lib.hid (lessL_len _ _ _)) (by omega)).mono ?_
      rintro e w5 ⟨rfl, hb⟩
      have HM5 := Lib.hid (HM2.out.keep hb)
      obtain ⟨r0, r1, r2, hv⟩ := vio_agg s (lessL xs bs k)
      rw [hv, HYB.out, errT]
      generalize hp : (vioO s (lessL xs bs k)).isSome = p
      have HP := Lib.hid hp
      clear hb hv hp k0 k1 k2 k3 k4
      have HBF : Hid (Below w.heap.size w (w5.alloc (.cells #[.int .i64 r0, .int .i64 r1, .int .i64 r2] 39))) := Lib.hid (HM5.out.bel.alloc HM5.out.bel.size _)
      cases q
      · have hpf : p = false := by rw [← HP.out]; exact HLE.out rfl
        subst hpf
        go_wp2_with fail
        go_ret
        exact ⟨rfl, HBF.out⟩
      · go_wp2_with fail
        go_ret
        exact ⟨rfl, HBF.out⟩
end Go.Proofs.Ytmplageajlhpbaa
