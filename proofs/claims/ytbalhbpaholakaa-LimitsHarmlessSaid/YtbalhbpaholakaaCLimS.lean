/-
LimitsRows, walked.
-/
import Derived.Test.YtbalhbpaholakaaCLimS0
import Derived.Test.YtbalhbpaholakaaCLimP
namespace Go.Proofs.Ytbalhbpaholakaa
open Go.RowKit
set_option linter.unusedVariables false
set_option linter.unusedSimpArgs false
theorem rows_at {W : World} {a : Option Addr} {hs : List RowH} {rs : List GRow} (h : RdRows W a hs rs) {k : Nat} (hk : k < rs.length) : ∃ b off cap ma mn mc mem, a = some ⟨b, off, none⟩ ∧ b < W.heap.size ∧ rs[k]? = some ⟨cap, mem⟩ ∧ mn = mem.length ∧ Rd 1 encI W ma mem ∧ W.cell? ⟨b, off + k * 2, none⟩ = some (.int .i64 cap) ∧ W.cell? ⟨b, off + k * 2 + 1, none⟩ = some (.slice ma mn mc) := by
  obtain ⟨b, off, x, hA, hb, hx, hc⟩ := h.1.at_ (k := k) (by rw [h.2.1]; exact hk)
  have hr : rs[k]? = some rs[k] := List.getElem?_eq_getElem hk
  obtain ⟨m1, m2, m3⟩ := h.2.2 k x _ hx hr
  obtain ⟨x0, xa, xn, xd⟩ := x
  dsimp only at m1 m2 m3
  generalize rs[k] = r at *
  obtain ⟨cap, mem⟩ := r
  dsimp only at m1 m2 m3
  subst m1
  exact ⟨b, off, x0, xa, xn, xd, mem, hA, hb, hr, m2, m3, hc 0 _ rfl, hc 1 _ rfl⟩
theorem any_snoc {α : Type} {f : α → Bool} {xs : List α} {k : Nat} {x : α} (h : xs[k]? = some x) : (xs.take (k + 1)).any f = ((xs.take k).any f || f x) := by
  rw [take_snoc h, List.any_append]
  simp
theorem cur_bd {s : GSite} {xs : List Int} (h : loadB s xs = true) : xs.length = s.chgs.length ∧ ∀ i, 0 ≤ fI xs i ∧ fI xs i ≤ 80 := by
  unfold loadB at h
  rw [Bool.and_eq_true] at h
  have h1 := curB_iff.1 h.2
  refine ⟨h1.1, fun i => ?_⟩
  by_cases hi : i < xs.length
  · exact h1.2 i hi
  · unfold fI
    rw [List.getElem?_eq_none (by omega)]
    simp
set_option maxRecDepth 100000 in
set_option maxHeartbeats 8000000 in
theorem walk_LimitsRows (a1 : Option Addr) (n1 c1 : Nat) (a2 : Option Addr) (n2 c2 : Nat) (a3 : Option Addr) (n3 c3 : Nat) (a4 : Option Addr) (n4 c4 : Nat) (a5 : Option Addr) (n5 c5 : Nat) (s : GSite) {w : World} (HS : Hid (RdSite w a1 a2 a3 a4 a5 n1 n2 n3 n4 n5 s)) (_ : WfSite s) (aA : Option Addr) (cA nA : Nat) (xs : List Int) (hX : Rd 1 encI w aA xs) (HNA : Hid (xs.length = nA)) (hnA : nA ≤ 9223372036854775807) (_ : ∀ x, x ∈ xs → wfI64 x) :
    Calls Try.prog 4 #[.agg #[.slice a1 n1 c1, .slice a2 n2 c2, .slice a3 n3 c3, .slice a4 n4 c4, .slice a5 n5 c5], .slice aA nA cA] w fun e w' => e = .returned (.bool true) ∧ Below w.heap.size w w' := by
  have HX := Lib.hid hX
  have HM0 := Lib.hid (LwM.box (c1 := c1) (c2 := c2) (c3 := c3) (c4 := c4) (c5 := c5) HS.out)
  clear hX
  go_enter Try.func4, Try.ntmps4
  go_wp2_with fail
  refine (lhHead_any _).mono ?_
  rintro e w1 ⟨rfl, hb⟩
  have HM := Lib.hid (HM0.out.keep hb)
  generalize hXX : w.heap.size = X at HM ⊢
  have hlX : X < w1.heap.size := World.block_lt_of_cell? w1 _ HM.out.k0
  have HSZ := Lib.hid hXX
  clear hb HM0 hXX
  obtain ⟨k0, k1, k2, k3, k4⟩ : w1.cell? ⟨X, 0, none⟩ = some (.slice a1 n1 c1) ∧ w1.cell? ⟨X, 1, none⟩ = some (.slice a2 n2 c2) ∧ w1.cell? ⟨X, 2, none⟩ = some (.slice a3 n3 c3) ∧ w1.cell? ⟨X, 3, none⟩ = some (.slice a4 n4 c4) ∧ w1.cell? ⟨X, 4, none⟩ = some (.slice a5 n5 c5) := ⟨HM.out.k0, HM.out.k1, HM.out.k2, HM.out.k3, HM.out.k4⟩
  go_wp2_with fail
  refine (lhValid_any a1 a2 a3 a4 a5 n1 c1 n2 c2 n3 c3 n4 c4 n5 c5 aA nA cA s xs w1 (Lib.hid HM.out.rs) (Lib.hid (HX.out.keep HM.out.bel)) HNA hnA).mono ?_
  rintro e w2 ⟨rfl, hb⟩
  have HM := Lib.hid (HM.out.keep hb)
  have hlX : X < w2.heap.size := World.block_lt_of_cell? w2 _ HM.out.k0
  clear hb k0 k1 k2 k3 k4
  obtain ⟨k0, k1, k2, k3, k4⟩ : w2.cell? ⟨X, 0, none⟩ = some (.slice a1 n1 c1) ∧ w2.cell? ⟨X, 1, none⟩ = some (.slice a2 n2 c2) ∧ w2.cell? ⟨X, 2, none⟩ = some (.slice a3 n3 c3) ∧ w2.cell? ⟨X, 3, none⟩ = some (.slice a4 n4 c4) ∧ w2.cell? ⟨X, 4, none⟩ = some (.slice a5 n5 c5) := ⟨HM.out.k0, HM.out.k1, HM.out.k2, HM.out.k3, HM.out.k4⟩
  cases hv : lhB s xs
  · go_wp2_with fail
    go_ret
    exact ⟨rfl, HM.out.bel⟩
  have HLB := Lib.hid (lhB_load hv)
  clear hv
  go_wp2_with fail
  refine (limRows_any a1 a2 a3 a4 a5 n1 c1 n2 c2 n3 c3 n4 c4 n5 c5 s w2 (Lib.hid HM.out.rs)).mono ?_
  rintro e w3 ⟨aR, cR, hs, rfl, hrr, hb⟩
  have hok : okSB keyL s = true := by
    cases h : okSB keyL s
    · have := HLB.out; rw [loadB_no1 h] at this; cases this
    · rfl
  have HOK := Lib.hid (okSB_iff.1 hok)
  obtain ⟨rs, hrs⟩ : ∃ rs, rs = rowsO s := ⟨_, rfl⟩
  rw [← hrs] at hrr ⊢
  have HRS : Hid (∀ r, r ∈ rs → ∃ t, t < s.cons.length * 3 ∧ (memL s t).length ≠ 0 ∧ r = ⟨limAt s (t / 3), memL s t⟩) := Lib.hid (fun r hr => by rw [hrs, rowsO_yes hok] at hr; exact rowsL_mem.1 hr)
  have HVR : Hid ((vioO s xs).isSome = rs.any (overB xs)) := Lib.hid (by rw [hrs]; exact vio_rows HLB.out HOK.out)
  rw [hok, errT]
  have HRR := Lib.hid hrr
  have HM := Lib.hid (HM.out.keep hb)
  have hlX : X < w3.heap.size := World.block_lt_of_cell? w3 _ HM.out.k0
  have hml : rs.length ≤ 1000 := by
    rw [hrs, rowsO_yes hok]
    have h1 := rowsL_len s (s.cons.length * 3)
    have h2 := HOK.out.n2
    omega
  obtain ⟨m, hm⟩ : ∃ m, m = rs.length := ⟨_, rfl⟩
  rw [← hm] at hml ⊢
  have HML := Lib.hid hm
  clear hb k0 k1 k2 k3 k4 hrs hrr hm hok
  obtain ⟨k0, k1, k2, k3, k4⟩ : w3.cell? ⟨X, 0, none⟩ = some (.slice a1 n1 c1) ∧ w3.cell? ⟨X, 1, none⟩ = some (.slice a2 n2 c2) ∧ w3.cell? ⟨X, 2, none⟩ = some (.slice a3 n3 c3) ∧ w3.cell? ⟨X, 3, none⟩ = some (.slice a4 n4 c4) ∧ w3.cell? ⟨X, 4, none⟩ = some (.slice a5 n5 c5) := ⟨HM.out.k0, HM.out.k1, HM.out.k2, HM.out.k3, HM.out.k4⟩
  go_wp2_with fail
  refine (limCheck_any a1 a2 a3 a4 a5 n1 c1 n2 c2 n3 c3 n4 c4 n5 c5 aA nA cA s xs w3 (Lib.hid HM.out.rs) (Lib.hid (HX.out.keep HM.out.bel)) HNA hnA).mono ?_
  rintro e w4 ⟨rfl, hb⟩
  have HM := Lib.hid (HM.out.keep hb)
  have HRR := Lib.hid (HRR.out.keep hb)
  obtain ⟨v0, v1, v2, hv⟩ := vio_agg s xs
  rw [hv, HLB.out, errT]
  generalize hq : (vioO s xs).isSome = q
  have HQ : Hid (rs.any (overB xs) = q) := Lib.hid (by rw [← HVR.out, hq])
  have hlX : X < w4.heap.size := World.block_lt_of_cell? w4 _ HM.out.k0
  have HC16 : Hid (s.chgs.length ≤ 16) := Lib.hid HOK.out.n5
  have hcl : s.chgs.length = n4 := HS.out.l4
  have hn16 : n4 ≤ 16 := by have := HC16.out; omega
  have HCU := Lib.hid (cur_bd HLB.out)
  have hnA4 : n4 = nA := by have := HCU.out.1; rw [HNA.out] at this; omega
  have HCL := Lib.hid hcl
  subst hnA4
  clear hb k0 k1 k2 k3 k4 hv hq hcl HVR
  obtain ⟨k0, k1, k2, k3, k4⟩ : w4.cell? ⟨X, 0, none⟩ = some (.slice a1 n1 c1) ∧ w4.cell? ⟨X, 1, none⟩ = some (.slice a2 n2 c2) ∧ w4.cell? ⟨X, 2, none⟩ = some (.slice a3 n3 c3) ∧ w4.cell? ⟨X, 3, none⟩ = some (.slice a4 n4 c4) ∧ w4.cell? ⟨X, 4, none⟩ = some (.slice a5 n5 c5) := ⟨HM.out.k0, HM.out.k1, HM.out.k2, HM.out.k3, HM.out.k4⟩
  go_wp2_with fail
  obtain ⟨W4, hW4⟩ : ∃ W4, W4 = w4.alloc (.cells #[.int .i64 v0, .int .i64 v1, .int .i64 v2] 39) := ⟨_, rfl⟩
  have b4 : Below w4.heap.size w4 W4 := by rw [hW4]; exact (Below.refl _ w4).alloc (Nat.le_refl _) _
  have HM := Lib.hid (HM.out.keep b4)
  have HRR := Lib.hid (HRR.out.keep b4)
  rw [← hW4]
  clear hW4 b4 k0 k1 k2 k3 k4 hlX
  go_loopg [5, 12, 13] m (fun g1 v5 v12 v13 wr => ∃ k : Nat, v13 = .int .i64 k ∧ k ≤ m ∧ m - k ≤ g1 ∧ v5 = .bool true ∧ v12 = .bool ((rs.take k).any (overB xs)) ∧ Hid (LwM w wr X a1 n1 c1 a2 n2 c2 a3 n3 c3 a4 n4 c4 a5 n5 c5 s) ∧ Hid (RdRows wr aR hs rs))
  case atStart => exact ⟨0, by go_num, by omega, by omega, rfl, rfl, HM, HRR⟩
  case round =>
    obtain ⟨k, rfl, hk, hg1, rfl, rfl, HM, HRR⟩ := hrel
    by_cases hlt : k < m
    · have hltz : (k : Int) < (m : Int) := by omega
      obtain ⟨b, off, cap, ma, mn, mc, mem, hA, hbl, hrk, hmn, hmr, h0, h1⟩ := rows_at HRR.out (k := k) (by rw [← HML.out]; exact hlt)
      have HAN := Lib.hid (any_snoc (f := overB xs) hrk)
      have HOV : Hid (overB xs ⟨cap, mem⟩ = decide (cap < sumK xs mem mn)) := Lib.hid (by rw [hmn]; rfl)
      obtain ⟨t, ht1, ht2, ht3⟩ := HRS.out _ (List.mem_of_getElem? hrk)
      injection ht3 with hcap hmem
      have HMIN : Hid (∀ i, i < mn → 0 ≤ fI mem i ∧ fI mem i < n4) := Lib.hid (fun i hi => by
        have h := memL_in s t (i := i) (by rw [← hmem, ← hmn]; exact hi)
        rw [← hmem] at h
        have := HCL.out
        omega)
      have HINC : Hid (∀ i j, i < j → j < mn → fI mem i < fI mem j) := Lib.hid (fun i j hij hj => by
        have h := memL_inc s t hij (by rw [← hmem, ← hmn]; exact hj)
        rw [← hmem] at h
        exact h)
      have hmp : 0 < mn := by rw [hmn, hmem]; omega
      have hmb : mn ≤ 16 := by
        have h := memL_len s t
        rw [← hmem, ← hmn] at h
        have := HC16.out
        omega
      have HMR := Lib.hid hmr
      have HMN := Lib.hid hmn
      have HW : Hid (∀ W, Below wr.heap.size wr W → Calls Try.prog 23 #[.agg #[.int .i64 cap, .slice ma mn mc], .slice aA n4 cA] W fun e w' => e = .returned (.int .i64 (sumK xs mem mn)) ∧ Below W.heap.size W w') := Lib.hid (fun W hB => lhSum_any cap ma mn mc aA n4 cA mem xs W (Lib.hid (HMR.out.keep hB)) (Lib.hid HMN.out.symm) (by omega) (Lib.hid (HX.out.keep (below_then HM.out.bel hB))) HNA (by omega) HMIN (Lib.hid HCU.out.2))
      have HM0 := HM
      have HR0 := HRR
      clear hrk hmn hmr ht1 ht2 hcap hmem
      subst hA
      generalize hp : (rs.take k).any (overB xs) = p at *
      have HAK : Hid ((rs.take (k + 1)).any (overB xs) = (p || decide (cap < sumK xs mem mn))) := Lib.hid (by rw [HAN.out, HOV.out])
      clear hp HAN HOV
      have HHL := Lib.hid (And.intro hbl h1)
      obtain ⟨wo, hwo⟩ : ∃ x, x = wr := ⟨_, rfl⟩
      subst hwo
      cases p
      case true =>
        go_wp2_with fail
        go_quiet (fail)
        have HBC := Lib.hid (below_drewG nq (Below.refl wo.heap.size wo))
        generalize wo.drewN nq = wc at *
        clear h0 h1 hbl
        go_wp2_with fail
        go_loopg [5, 14] mn (fun g2 v5 v14 wq => ∃ j : Nat, v14 = .int .i64 j ∧ j ≤ mn ∧ mn - j ≤ g2 ∧ v5 = .bool true ∧ Hid (Below wo.heap.size wo wq))
        case atStart => exact ⟨0, by go_num, by omega, by omega, rfl, HBC⟩
        case round =>
          obtain ⟨j, rfl, hj, hg2, rfl, HB⟩ := hrel
          have d1 := (HB.out.cell (p := ⟨b, off + k * 2 + 1, none⟩) HHL.out.1).trans HHL.out.2
          have HM := Lib.hid (HM0.out.keep HB.out)
          have k3 := HM.out.k3
          by_cases hlj : j < mn
          · have hljz : (j : Int) < (mn : Int) := by omega
            obtain ⟨bm, om, hAm, hbm, hcm⟩ := HMR.out.int (k := j) (by rw [← HMN.out]; exact hlj)
            have e1 : wr.cell? ⟨bm, om + j, none⟩ = some (.int .i64 (fI mem j)) := (HB.out.cell (p := ⟨bm, om + j, none⟩) hbm).trans hcm
            have hy := HMIN.out j hlj
            obtain ⟨y, hyy⟩ : ∃ y, y = fI mem j := ⟨_, rfl⟩
            rw [← hyy] at e1 hy
            have hd0 : decide (0 ≤ y) = true := decide_eq_true hy.1
            have hd1 : decide (y < (n4 : Int)) = true := decide_eq_true hy.2
            obtain ⟨hy0, hy1⟩ := hy
            rcases Nat.eq_zero_or_pos j with hj0 | hj0
            · have hne : decide ((j : Int) = 0) = true := decide_eq_true (by omega)
              have hne2 : ((j : Int) == 0) = true := by simpa using hj0
              subst hAm
              clear hyy hcm hbm hj0
              go_wp2_with fail
              try (go_quiet (fail); go_wp2_with fail)
              go_roundg (mn - (j + 1))
              case measure => omega
              case rel => exact ⟨j + 1, by go_num, by omega, by omega, rfl, HB⟩
            · obtain ⟨i, rfl⟩ : ∃ i, j = i + 1 := ⟨j - 1, by omega⟩
              obtain ⟨bn, on, hAn, hbn, hcn⟩ := HMR.out.int (k := i) (by rw [← HMN.out]; omega)
              have e2 : wr.cell? ⟨bn, on + i, none⟩ = some (.int .i64 (fI mem i)) := (HB.out.cell (p := ⟨bn, on + i, none⟩) hbn).trans hcn
              have hyz := HINC.out i (i + 1) (by omega) hlj
              rw [← hyy] at hyz
              rw [hAm] at hAn
              injection hAn with hAn
              injection hAn with hAn1 hAn2
              subst hAn1 hAn2
              generalize fI mem i = z at *
              have hdz : decide (z < y) = true := decide_eq_true hyz
              have hne : decide (((i + 1 : Nat) : Int) = 0) = false := decide_eq_false (by omega)
              have hne2 : (((i + 1 : Nat) : Int) == 0) = false := by simpa using (by omega : ¬ ((i + 1 : Nat) : Int) = 0)
              have hwi : IntKind.i64.wrap (((i + 1 : Nat) : Int) - 1) = (i : Int) := by rw [show ((i + 1 : Nat) : Int) - 1 = (i : Int) by omega]; exact IntWalk.i64_in _ (by omega)
              have hiz : (i : Int) < (mn : Int) := by omega
              subst hAm
              clear hyy hcm hbm hcn hbn hj0
              go_wp2_with fail
              try (go_quiet (fail); go_wp2_with fail)
              go_roundg (mn - (i + 1 + 1))
              case measure => omega
              case rel => exact ⟨i + 1 + 1, by go_num, by omega, by omega, rfl, HB⟩
          · have hljz : ¬ (j : Int) < (mn : Int) := by omega
            have hmz : decide ((0 : Int) < (mn : Int)) = true := decide_eq_true (by omega)
            have hmz2 : (0 : Int) < (mn : Int) := by omega
            have HR := Lib.hid (HR0.out.keep HB.out)
            go_wp2_with fail
            try (go_quiet (fail); go_wp2_with fail)
            go_roundg (m - (k + 1))
            case measure => omega
            case rel => exact ⟨k + 1, by go_num, by omega, by omega, rfl, by rw [HAK.out]; rfl, HM, HR⟩
      case false =>
        go_wp2_with fail
        refine region_z (S := fun w' => Below wo.heap.size wo w') [] (by kernel_rfl) (Below.refl _ _).drew (fun hHeld => ?_)
        have HC := Lib.hid (HW.out _ hHeld)
        refine wpAnyZ_take (i := 0) (v := .bool false) [] rfl (by kernel_rfl) (by kernel_rfl) (by kernel_rfl) (by kernel_rfl) (fun _ _ _ h => h) (Or.inl ⟨by kernel_rfl, fun w' hSw => ?_⟩) hHeld ?_
        · have s1 := (hSw.cell (p := ⟨b, off + k * 2, none⟩) hbl).trans h0
          have s2 := (hSw.cell (p := ⟨b, off + k * 2 + 1, none⟩) hbl).trans h1
          clear hHeld hSw
          go_simp
        simp only [Act.put, List.getElem_toArray, List.getElem_cons_zero, List.getElem_cons_succ, List.setIfInBounds_toArray, List.set_cons_zero, List.set_cons_succ]
        refine wpAnyZ_take (i := 1) (v := .bool false) [] rfl (by kernel_rfl) (by kernel_rfl) (by kernel_rfl) (by kernel_rfl) (fun _ _ _ h => h) (Or.inl ⟨by kernel_rfl, fun w' hSw => ?_⟩) hHeld ?_
        · have s1 := (hSw.cell (p := ⟨b, off + k * 2, none⟩) hbl).trans h0
          have s2 := (hSw.cell (p := ⟨b, off + k * 2 + 1, none⟩) hbl).trans h1
          clear hHeld hSw
          go_simp
        simp only [Act.put, List.getElem_toArray, List.getElem_cons_zero, List.getElem_cons_succ, List.setIfInBounds_toArray, List.set_cons_zero, List.set_cons_succ]
        refine wpAnyZ_take (i := 2) (v := .slice (some ⟨b, off, none⟩) m cR) [] rfl (by kernel_rfl) (by kernel_rfl) (by kernel_rfl) (by kernel_rfl) (fun _ _ _ h => h) (Or.inl ⟨by kernel_rfl, fun w' hSw => ?_⟩) hHeld ?_
        · have s1 := (hSw.cell (p := ⟨b, off + k * 2, none⟩) hbl).trans h0
          have s2 := (hSw.cell (p := ⟨b, off + k * 2 + 1, none⟩) hbl).trans h1
          clear hHeld hSw
          go_simp
        simp only [Act.put, List.getElem_toArray, List.getElem_cons_zero, List.getElem_cons_succ, List.setIfInBounds_toArray, List.set_cons_zero, List.set_cons_succ]
        refine wpAnyZ_take (i := 3) (v := .int .i64 (k : Nat)) [] rfl (by kernel_rfl) (by kernel_rfl) (by kernel_rfl) (by kernel_rfl) (fun _ _ _ h => h) (Or.inl ⟨by kernel_rfl, fun w' hSw => ?_⟩) hHeld ?_
        · have s1 := (hSw.cell (p := ⟨b, off + k * 2, none⟩) hbl).trans h0
          have s2 := (hSw.cell (p := ⟨b, off + k * 2 + 1, none⟩) hbl).trans h1
          clear hHeld hSw
          go_simp
        simp only [Act.put, List.getElem_toArray, List.getElem_cons_zero, List.getElem_cons_succ, List.setIfInBounds_toArray, List.set_cons_zero, List.set_cons_succ]
        refine wpAnyZ_take (i := 4) (v := .pointer (some ⟨b, off + k * 2, none⟩)) [] rfl (by kernel_rfl) (by kernel_rfl) (by kernel_rfl) (by kernel_rfl) (fun _ _ _ h => h) (Or.inl ⟨by kernel_rfl, fun w' hSw => ?_⟩) hHeld ?_
        · have s1 := (hSw.cell (p := ⟨b, off + k * 2, none⟩) hbl).trans h0
          have s2 := (hSw.cell (p := ⟨b, off + k * 2 + 1, none⟩) hbl).trans h1
          clear hHeld hSw
          go_simp
        simp only [Act.put, List.getElem_toArray, List.getElem_cons_zero, List.getElem_cons_succ, List.setIfInBounds_toArray, List.set_cons_zero, List.set_cons_succ]
        refine wpAnyZ_take (i := 5) (v := .agg #[.int .i64 cap, .slice ma mn mc]) [] rfl (by kernel_rfl) (by kernel_rfl) (by kernel_rfl) (by kernel_rfl) (fun _ _ _ h => h) (Or.inl ⟨by kernel_rfl, fun w' hSw => ?_⟩) hHeld ?_
        · have s1 := (hSw.cell (p := ⟨b, off + k * 2, none⟩) hbl).trans h0
          have s2 := (hSw.cell (p := ⟨b, off + k * 2 + 1, none⟩) hbl).trans h1
          clear hHeld hSw
          go_simp
        simp only [Act.put, List.getElem_toArray, List.getElem_cons_zero, List.getElem_cons_succ, List.setIfInBounds_toArray, List.set_cons_zero, List.set_cons_succ]
        refine wpAnyZ_take (i := 6) (v := .slice aA n4 cA) [] rfl (by kernel_rfl) (by kernel_rfl) (by kernel_rfl) (by kernel_rfl) (fun _ _ _ h => h) (Or.inl ⟨by kernel_rfl, fun w' hSw => ?_⟩) hHeld ?_
        · have s1 := (hSw.cell (p := ⟨b, off + k * 2, none⟩) hbl).trans h0
          have s2 := (hSw.cell (p := ⟨b, off + k * 2 + 1, none⟩) hbl).trans h1
          clear hHeld hSw
          go_simp
        simp only [Act.put, List.getElem_toArray, List.getElem_cons_zero, List.getElem_cons_succ, List.setIfInBounds_toArray, List.set_cons_zero, List.set_cons_succ]
        refine wpAnyZ_take (i := 8) (v := .slice (some ⟨b, off, none⟩) m cR) [] rfl (by kernel_rfl) (by kernel_rfl) (by kernel_rfl) (by kernel_rfl) (fun _ _ _ h => h) (Or.inl ⟨by kernel_rfl, fun w' hSw => ?_⟩) hHeld ?_
        · have s1 := (hSw.cell (p := ⟨b, off + k * 2, none⟩) hbl).trans h0
          have s2 := (hSw.cell (p := ⟨b, off + k * 2 + 1, none⟩) hbl).trans h1
          clear hHeld hSw
          go_simp
        simp only [Act.put, List.getElem_toArray, List.getElem_cons_zero, List.getElem_cons_succ, List.setIfInBounds_toArray, List.set_cons_zero, List.set_cons_succ]
        refine wpAnyZ_take (i := 9) (v := .int .i64 (k : Nat)) [] rfl (by kernel_rfl) (by kernel_rfl) (by kernel_rfl) (by kernel_rfl) (fun _ _ _ h => h) (Or.inl ⟨by kernel_rfl, fun w' hSw => ?_⟩) hHeld ?_
        · have s1 := (hSw.cell (p := ⟨b, off + k * 2, none⟩) hbl).trans h0
          have s2 := (hSw.cell (p := ⟨b, off + k * 2 + 1, none⟩) hbl).trans h1
          clear hHeld hSw
          go_simp
        simp only [Act.put, List.getElem_toArray, List.getElem_cons_zero, List.getElem_cons_succ, List.setIfInBounds_toArray, List.set_cons_zero, List.set_cons_succ]
        refine wpAnyZ_take (i := 10) (v := .pointer (some ⟨b, off + k * 2, none⟩)) [] rfl (by kernel_rfl) (by kernel_rfl) (by kernel_rfl) (by kernel_rfl) (fun _ _ _ h => h) (Or.inl ⟨by kernel_rfl, fun w' hSw => ?_⟩) hHeld ?_
        · have s1 := (hSw.cell (p := ⟨b, off + k * 2, none⟩) hbl).trans h0
          have s2 := (hSw.cell (p := ⟨b, off + k * 2 + 1, none⟩) hbl).trans h1
          clear hHeld hSw
          go_simp
        simp only [Act.put, List.getElem_toArray, List.getElem_cons_zero, List.getElem_cons_succ, List.setIfInBounds_toArray, List.set_cons_zero, List.set_cons_succ]
        refine wpAnyZ_take (i := 11) (v := .pointer (some ⟨b, off + k * 2, none⟩)) [] rfl (by kernel_rfl) (by kernel_rfl) (by kernel_rfl) (by kernel_rfl) (fun _ _ _ h => h) (Or.inl ⟨by kernel_rfl, fun w' hSw => ?_⟩) hHeld ?_
        · have s1 := (hSw.cell (p := ⟨b, off + k * 2, none⟩) hbl).trans h0
          have s2 := (hSw.cell (p := ⟨b, off + k * 2 + 1, none⟩) hbl).trans h1
          clear hHeld hSw
          go_simp
        simp only [Act.put, List.getElem_toArray, List.getElem_cons_zero, List.getElem_cons_succ, List.setIfInBounds_toArray, List.set_cons_zero, List.set_cons_succ]
        refine wpAnyZ_take (i := 12) (v := .int .i64 cap) [] rfl (by kernel_rfl) (by kernel_rfl) (by kernel_rfl) (by kernel_rfl) (fun _ _ _ h => h) (Or.inl ⟨by kernel_rfl, fun w' hSw => ?_⟩) hHeld ?_
        · have s1 := (hSw.cell (p := ⟨b, off + k * 2, none⟩) hbl).trans h0
          have s2 := (hSw.cell (p := ⟨b, off + k * 2 + 1, none⟩) hbl).trans h1
          clear hHeld hSw
          go_simp
        simp only [Act.put, List.getElem_toArray, List.getElem_cons_zero, List.getElem_cons_succ, List.setIfInBounds_toArray, List.set_cons_zero, List.set_cons_succ]
        refine wpAnyZ_one (i := 7) (by kernel_rfl) rfl (fun K' hK => ?_)
        go_simp
        refine (HC.out).mono ?_
        rintro e w7 ⟨rfl, hb7⟩
        refine hK.out _ _ ?_ (fun hHeld' => ?_)
        · exact hHeld.trans (hb7.mono hHeld.size)
        clear hK K' hHeld
        have hHeld := hHeld'
        clear hHeld'
        try simp only [Act.put, List.getElem_toArray, List.getElem_cons_zero, List.getElem_cons_succ, List.setIfInBounds_toArray, List.set_cons_zero, List.set_cons_succ]
        refine wpAnyZ_take (i := 13) (v := .bool (decide (cap < sumK xs mem mn))) [] rfl (by kernel_rfl) (by kernel_rfl) (by kernel_rfl) (by kernel_rfl) (fun _ _ _ h => h) (Or.inl ⟨by kernel_rfl, fun w' hSw => ?_⟩) hHeld ?_
        · clear hHeld hSw
          go_simp
        simp only [Act.put, List.getElem_toArray, List.getElem_cons_zero, List.getElem_cons_succ, List.setIfInBounds_toArray, List.set_cons_zero, List.set_cons_succ]
        refine wpAnyZ_take (i := 14) (v := .bool (decide (cap < sumK xs mem mn))) [] rfl (by kernel_rfl) (by kernel_rfl) (by kernel_rfl) (by kernel_rfl) (fun _ _ _ h => h) (Or.inl ⟨by kernel_rfl, fun w' hSw => ?_⟩) hHeld ?_
        · clear hHeld hSw
          go_simp
        simp only [Act.put, List.getElem_toArray, List.getElem_cons_zero, List.getElem_cons_succ, List.setIfInBounds_toArray, List.set_cons_zero, List.set_cons_succ]
        refine wpAnyZ_take (i := 15) (v := .bool (decide (cap < sumK xs mem mn))) [] rfl (by kernel_rfl) (by kernel_rfl) (by kernel_rfl) (by kernel_rfl) (fun _ _ _ h => h) (Or.inl ⟨by kernel_rfl, fun w' hSw => ?_⟩) hHeld ?_
        · clear hHeld hSw
          go_simp
        simp only [Act.put, List.getElem_toArray, List.getElem_cons_zero, List.getElem_cons_succ, List.setIfInBounds_toArray, List.set_cons_zero, List.set_cons_succ]
        refine wpAnyZ_done (by kernel_rfl) ?_ _
        go_step
        go_step
        refine wp_world (fun W => Below wo.heap.size wo W) hHeld (fun wc hwc => ?_)
        have HBC := Lib.hid hwc
        clear hHeld hwc h0 h1 hbl HC
        go_wp2_with fail
        go_loopg [5, 14] mn (fun g2 v5 v14 wq => ∃ j : Nat, v14 = .int .i64 j ∧ j ≤ mn ∧ mn - j ≤ g2 ∧ v5 = .bool true ∧ Hid (Below wo.heap.size wo wq))
        case atStart => exact ⟨0, by go_num, by omega, by omega, rfl, HBC⟩
        case round =>
          obtain ⟨j, rfl, hj, hg2, rfl, HB⟩ := hrel
          have d1 := (HB.out.cell (p := ⟨b, off + k * 2 + 1, none⟩) HHL.out.1).trans HHL.out.2
          have HM := Lib.hid (HM0.out.keep HB.out)
          have k3 := HM.out.k3
          by_cases hlj : j < mn
          · have hljz : (j : Int) < (mn : Int) := by omega
            obtain ⟨bm, om, hAm, hbm, hcm⟩ := HMR.out.int (k := j) (by rw [← HMN.out]; exact hlj)
            have e1 : wr.cell? ⟨bm, om + j, none⟩ = some (.int .i64 (fI mem j)) := (HB.out.cell (p := ⟨bm, om + j, none⟩) hbm).trans hcm
            have hy := HMIN.out j hlj
            obtain ⟨y, hyy⟩ : ∃ y, y = fI mem j := ⟨_, rfl⟩
            rw [← hyy] at e1 hy
            have hd0 : decide (0 ≤ y) = true := decide_eq_true hy.1
            have hd1 : decide (y < (n4 : Int)) = true := decide_eq_true hy.2
            obtain ⟨hy0, hy1⟩ := hy
            rcases Nat.eq_zero_or_pos j with hj0 | hj0
            · have hne : decide ((j : Int) = 0) = true := decide_eq_true (by omega)
              have hne2 : ((j : Int) == 0) = true := by simpa using hj0
              subst hAm
              clear hyy hcm hbm hj0
              go_wp2_with fail
              try (go_quiet (fail); go_wp2_with fail)
              go_roundg (mn - (j + 1))
              case measure => omega
              case rel => exact ⟨j + 1, by go_num, by omega, by omega, rfl, HB⟩
            · obtain ⟨i, rfl⟩ : ∃ i, j = i + 1 := ⟨j - 1, by omega⟩
              obtain ⟨bn, on, hAn, hbn, hcn⟩ := HMR.out.int (k := i) (by rw [← HMN.out]; omega)
              have e2 : wr.cell? ⟨bn, on + i, none⟩ = some (.int .i64 (fI mem i)) := (HB.out.cell (p := ⟨bn, on + i, none⟩) hbn).trans hcn
              have hyz := HINC.out i (i + 1) (by omega) hlj
              rw [← hyy] at hyz
              rw [hAm] at hAn
              injection hAn with hAn
              injection hAn with hAn1 hAn2
              subst hAn1 hAn2
              generalize fI mem i = z at *
              have hdz : decide (z < y) = true := decide_eq_true hyz
              have hne : decide (((i + 1 : Nat) : Int) = 0) = false := decide_eq_false (by omega)
              have hne2 : (((i + 1 : Nat) : Int) == 0) = false := by simpa using (by omega : ¬ ((i + 1 : Nat) : Int) = 0)
              have hwi : IntKind.i64.wrap (((i + 1 : Nat) : Int) - 1) = (i : Int) := by rw [show ((i + 1 : Nat) : Int) - 1 = (i : Int) by omega]; exact IntWalk.i64_in _ (by omega)
              have hiz : (i : Int) < (mn : Int) := by omega
              subst hAm
              clear hyy hcm hbm hcn hbn hj0
              go_wp2_with fail
              try (go_quiet (fail); go_wp2_with fail)
              go_roundg (mn - (i + 1 + 1))
              case measure => omega
              case rel => exact ⟨i + 1 + 1, by go_num, by omega, by omega, rfl, HB⟩
          · have hljz : ¬ (j : Int) < (mn : Int) := by omega
            have hmz : decide ((0 : Int) < (mn : Int)) = true := decide_eq_true (by omega)
            have hmz2 : (0 : Int) < (mn : Int) := by omega
            have HR := Lib.hid (HR0.out.keep HB.out)
            go_wp2_with fail
            try (go_quiet (fail); go_wp2_with fail)
            go_roundg (m - (k + 1))
            case measure => omega
            case rel => exact ⟨k + 1, by go_num, by omega, by omega, rfl, by rw [HAK.out]; rfl, HM, HR⟩
    · have hltz : ¬ (k : Int) < (m : Int) := by omega
      have hkm : k = m := by omega
      have HT : Hid ((rs.take k).any (overB xs) = q) := Lib.hid (by rw [hkm, HML.out, List.take_length]; exact HQ.out)
      clear hkm
      rw [HT.out]
      cases q
      all_goals
        go_wp2_with fail
        go_ret
        exact ⟨rfl, HM.out.bel⟩
end Go.Proofs.Ytbalhbpaholakaa
