/-
TreeBelow, walked.
-/
import Derived.Test.YtjlfnhfiiailgaaCLawW2
namespace Go.Proofs.Ytjlfnhfiiailgaa
open Go.RowKit
set_option linter.unusedVariables false
set_option linter.unusedSimpArgs false
theorem belowL_mem {s : GSite} {co : Int} {m i : Nat} (hi : i < m) : decide ((i : Int) ∈ belowL s co m) = isBel s co i := by
  cases h : isBel s co i
  · simp only [decide_eq_false_iff_not]
    intro hm
    unfold belowL at hm
    obtain ⟨j, hj, e⟩ := List.mem_map.1 hm
    have e2 : j = i := by omega
    have h2 := (List.mem_filter.1 hj).2
    rw [e2, h] at h2
    cases h2
  · simp only [decide_eq_true_eq]
    unfold belowL
    exact List.mem_map.2 ⟨i, List.mem_filter.2 ⟨List.mem_range.2 hi, h⟩, rfl⟩
theorem belowL_all {s : GSite} {co : Int} {m : Nat} (h : ∀ i, i < m → isBel s co i = true) : (belowL s co m).length = m := by
  induction m with
  | zero => rfl
  | succ m ih => rw [belowL_yes (h m (by omega)), List.length_append, ih (fun i hi => h i (by omega))]; rfl
theorem isBel_root {s : GSite} (hk : OkSite keyL s) {i : Nat} (hi : i < s.chgs.length) : isBel s 0 i = true := by
  obtain ⟨p1, p2, p3⟩ := hk.place (List.getElem?_eq_getElem hi)
  have h := pth_root hk.ups (placeOf s i) (by omega)
  unfold isBel
  simp only [decide_eq_true_eq]
  unfold pthI
  exact List.mem_map.2 ⟨0, List.mem_of_getLast? h, rfl⟩
theorem belowL_lt (s : GSite) (co : Int) (m : Nat) : (belowL s co m).Pairwise (fun a b => a < b) := by
  unfold belowL
  rw [List.pairwise_map]
  refine List.Pairwise.filter _ (List.Pairwise.imp ?_ (List.pairwise_lt_range (n := m)))
  intro a b h
  omega
theorem belowL_inc (s : GSite) (co : Int) (m : Nat) {i j : Nat} (hij : i < j) (hj : j < (belowL s co m).length) : fI (belowL s co m) i < fI (belowL s co m) j := by
  have h := List.pairwise_iff_getElem.1 (belowL_lt s co m) i j (by omega) hj hij
  unfold fI
  rw [List.getElem?_eq_getElem (by omega : i < _), List.getElem?_eq_getElem hj]
  exact h
set_option maxRecDepth 100000 in
set_option maxHeartbeats 8000000 in
theorem walk_TreeBelow (a1 : Option Addr) (n1 c1 : Nat) (a2 : Option Addr) (n2 c2 : Nat) (a3 : Option Addr) (n3 c3 : Nat) (a4 : Option Addr) (n4 c4 : Nat) (a5 : Option Addr) (n5 c5 : Nat) (s : GSite) {w : World} (HS : Hid (RdSite w a1 a2 a3 a4 a5 n1 n2 n3 n4 n5 s)) (_ : WfSite s) :
    Calls Try.prog 5 #[.agg #[.slice a1 n1 c1, .slice a2 n2 c2, .slice a3 n3 c3, .slice a4 n4 c4, .slice a5 n5 c5]] w fun e w' => e = .returned (.bool true) ∧ Below w.heap.size w w' := by
  have HM0 := Lib.hid (LwM.box (c1 := c1) (c2 := c2) (c3 := c3) (c4 := c4) (c5 := c5) HS.out)
  go_enter Try.func5, Try.ntmps5
  go_wp2_with fail
  refine (ltHead_any _).mono ?_
  rintro e w1 ⟨rfl, hb⟩
  have HM := Lib.hid (HM0.out.keep hb)
  generalize hXX : w.heap.size = X at HM ⊢
  have hlX : X < w1.heap.size := World.block_lt_of_cell? w1 _ HM.out.k0
  clear hb HM0 hXX
  obtain ⟨k0, k1, k2, k3, k4⟩ : w1.cell? ⟨X, 0, none⟩ = some (.slice a1 n1 c1) ∧ w1.cell? ⟨X, 1, none⟩ = some (.slice a2 n2 c2) ∧ w1.cell? ⟨X, 2, none⟩ = some (.slice a3 n3 c3) ∧ w1.cell? ⟨X, 3, none⟩ = some (.slice a4 n4 c4) ∧ w1.cell? ⟨X, 4, none⟩ = some (.slice a5 n5 c5) := ⟨HM.out.k0, HM.out.k1, HM.out.k2, HM.out.k3, HM.out.k4⟩
  go_wp2_with fail
  refine (ltUsable_any a1 a2 a3 a4 a5 n1 c1 n2 c2 n3 c3 n4 c4 n5 c5 s w1 (Lib.hid HM.out.rs)).mono ?_
  rintro e w2 ⟨rfl, hb⟩
  have HM2 := Lib.hid (HM.out.keep hb)
  clear hb HM k0 k1 k2 k3 k4 hlX
  cases hf : usableB s
  · go_wp2_with fail
    go_ret
    exact ⟨rfl, HM2.out.bel⟩
  have HOKB := Lib.hid (usableB_ok hf)
  have HOK := Lib.hid (okSB_iff.1 (usableB_ok hf))
  clear hf
  have hl1 : s.cons.length = n1 := HM2.out.rs.l1
  have hl4 : s.chgs.length = n4 := HM2.out.rs.l4
  have HL1 := Lib.hid hl1
  have HL4 := Lib.hid hl4
  have hn4b : n4 ≤ 16 := by have := HOK.out.n5; omega
  have hn1b : n1 ≤ 16 := by have := HOK.out.n2; omega
  have k0 := HM2.out.k0
  clear hl1 hl4
  go_wp2_with fail
  go_loopg [4, 20] n1 (fun g1 v4 v20 wr => ∃ k : Nat, v20 = .int .i64 k ∧ k ≤ n1 ∧ n1 - k ≤ g1 ∧ Hid (LwM w wr X a1 n1 c1 a2 n2 c2 a3 n3 c3 a4 n4 c4 a5 n5 c5 s))
  case atStart => exact ⟨0, by go_num, by omega, by omega, HM2⟩
  case round =>
    obtain ⟨k, rfl, hk, hg1, HM⟩ := hrel
    clear HM2 k0
    by_cases hlk : k < n1
    · have hlkz : (k : Int) < (n1 : Int) := by omega
      have hlX : X < wr.heap.size := World.block_lt_of_cell? wr _ HM.out.k0
      obtain ⟨k0, k1, k2, k3, k4⟩ : wr.cell? ⟨X, 0, none⟩ = some (.slice a1 n1 c1) ∧ wr.cell? ⟨X, 1, none⟩ = some (.slice a2 n2 c2) ∧ wr.cell? ⟨X, 2, none⟩ = some (.slice a3 n3 c3) ∧ wr.cell? ⟨X, 3, none⟩ = some (.slice a4 n4 c4) ∧ wr.cell? ⟨X, 4, none⟩ = some (.slice a5 n5 c5) := ⟨HM.out.k0, HM.out.k1, HM.out.k2, HM.out.k3, HM.out.k4⟩
      have HCO : Hid (okCo s (k : Int) = true) := Lib.hid (okCo_yes HOKB.out ⟨by omega, by have := HL1.out; omega⟩)
      have HBO : Hid (belowO s (k : Int) = belowL s (k : Int) n4) := Lib.hid (by rw [belowO_yes HCO.out, HL4.out])
      go_wp2_with fail
      refine (trBelow_any a1 a2 a3 a4 a5 n1 c1 n2 c2 n3 c3 n4 c4 n5 c5 s (k : Int) wr (Lib.hid HM.out.rs)).mono ?_
      rintro e w3 ⟨A, cA, he, hr, hb⟩
      rw [HBO.out, HCO.out] at he
      rw [HBO.out] at hr
      subst he
      have HM3 := Lib.hid (HM.out.keep hb)
      have HR := Lib.hid hr
      have HROOT : Hid (k = 0 → (belowL s (k : Int) n4).length = n4) := Lib.hid (fun h => by
        subst h
        exact belowL_all (fun i hi => isBel_root HOK.out (by rw [HL4.out]; exact hi)))
      have HMEM := Lib.hid (fun i (hi : i < n4) => belowL_mem (s := s) (co := (k : Int)) hi)
      have HINC := Lib.hid (fun i j h1 h2 => belowL_inc s (k : Int) n4 (i := i) (j := j) h1 h2)
      have HNO := Lib.hid (fun m => belowL_no (s := s) (co := (k : Int)) (m := m))
      have HYES := Lib.hid (fun m => belowL_yes (s := s) (co := (k : Int)) (m := m))
      have hln := belowL_len s (k : Int) n4
      have HLM := Lib.hid (fun m => belowL_len s (k : Int) m)
      generalize hn : (belowL s (k : Int) n4).length = n at *
      have HN := Lib.hid hn
      have k3 := HM3.out.k3
      clear hb hr HM k0 k1 k2 k4 hlX hn
      simp only [errO, if_true]
      have hroot : k = 0 → n = n4 := HROOT.out
      rcases (show (((k : Int) == 0) = true ∧ ((n : Int) != (n4 : Int)) = false) ∨ ((k : Int) == 0) = false from by
        by_cases h : k = 0
        · exact .inl ⟨by simp [h], by simp [hroot h]⟩
        · exact .inr (by simp [h])) with ⟨hkb, hkc⟩ | hkb
      all_goals (
        clear hroot HROOT
        go_wp2_with fail
        go_loopg [7, 8, 46] n4 (fun g2 v7 v8 v46 wi => ∃ i : Nat, v46 = .int .i64 i ∧ i ≤ n4 ∧ n4 - i ≤ g2 ∧ v7 = .int .i64 (((belowL s (k : Int) i).length : Nat) : Int) ∧ Hid (LwM w wi X a1 n1 c1 a2 n2 c2 a3 n3 c3 a4 n4 c4 a5 n5 c5 s) ∧ Hid (Rd 1 encI wi A (belowL s (k : Int) n4)))
        case atStart => exact ⟨0, by go_num, by omega, by omega, rfl, HM3, HR⟩
        case round =>
          obtain ⟨i, rfl, hi, hg2, rfl, HMi, HRi⟩ := hrel
          clear HM3 HR k3
          by_cases hli : i < n4
          · have hliz : (i : Int) < (n4 : Int) := by omega
            have hlX : X < wr.heap.size := World.block_lt_of_cell? wr _ HMi.out.k0
            obtain ⟨k0, k1, k2, k3, k4⟩ : wr.cell? ⟨X, 0, none⟩ = some (.slice a1 n1 c1) ∧ wr.cell? ⟨X, 1, none⟩ = some (.slice a2 n2 c2) ∧ wr.cell? ⟨X, 2, none⟩ = some (.slice a3 n3 c3) ∧ wr.cell? ⟨X, 3, none⟩ = some (.slice a4 n4 c4) ∧ wr.cell? ⟨X, 4, none⟩ = some (.slice a5 n5 c5) := ⟨HMi.out.k0, HMi.out.k1, HMi.out.k2, HMi.out.k3, HMi.out.k4⟩
            have HCH : Hid (okCh s (i : Int) = true) := Lib.hid (okCh_yes HOKB.out ⟨by omega, by have := HL4.out; omega⟩)
            have HPA : Hid (pathO s (i : Int) = pthI s.cons (placeOf s i)) := Lib.hid (by rw [pathO_yes HCH.out, Int.toNat_natCast])
            have hlx := pathO_len s (i : Int)
            rw [HPA.out] at hlx
            have hmi := HLM.out i
            go_wp2_with fail
            refine (trPath_any a1 a2 a3 a4 a5 n1 c1 n2 c2 n3 c3 n4 c4 n5 c5 s (i : Int) wr (Lib.hid HMi.out.rs)).mono ?_
            rintro e w4 ⟨A2, cA2, he, hr, hb⟩
            rw [HPA.out, HCH.out] at he
            rw [HPA.out] at hr
            subst he
            have HM4 := Lib.hid (HMi.out.keep hb)
            have HR4 := Lib.hid (HRi.out.keep hb)
            have HP4 := Lib.hid hr
            have hI1 := Lib.hid (ltIn_any A2 _ cA2 (pthI s.cons (placeOf s i)) (k : Int) w4 HP4 (Lib.hid rfl) (by omega))
            have hI2 := Lib.hid (ltIn_any A n cA (belowL s (k : Int) n4) (i : Int) w4 HR4 HN (by omega))
            rw [HMEM.out i hli] at hI2
            have hz : decide ((k : Int) ∈ pthI s.cons (placeOf s i)) = isBel s (k : Int) i := rfl
            rw [hz] at hI1
            generalize (pthI s.cons (placeOf s i)).length = lp at *
            clear hb hr HMi HRi k0 k1 k2 k3 k4 hlX hz
            simp only [errO, if_true]
            cases hbk : isBel s (k : Int) i
            · rw [hbk] at hI1 hI2
              have HLN := Lib.hid (HNO.out i hbk)
              go_wp2_with fail
              refine hI1.out.mono ?_
              rintro e w5 ⟨rfl, hw⟩
              subst w5
              go_wp2_with fail
              refine hI2.out.mono ?_
              rintro e w5 ⟨rfl, hw⟩
              subst w5
              go_wp2_with fail
              refine hI1.out.mono ?_
              rintro e w5 ⟨rfl, hw⟩
              subst w5
              go_wp2_with fail
              go_roundg (n4 - (i + 1))
              case measure => omega
              case rel => exact ⟨i + 1, by go_num, by omega, by omega, by rw [HLN.out], HM4, HR4⟩
            · rw [hbk] at hI1 hI2
              have HLN := Lib.hid (HYES.out i hbk)
              go_wp2_with fail
              refine hI1.out.mono ?_
              rintro e w5 ⟨rfl, hw⟩
              subst w5
              go_wp2_with fail
              refine hI2.out.mono ?_
              rintro e w5 ⟨rfl, hw⟩
              subst w5
              go_wp2_with fail
              refine hI1.out.mono ?_
              rintro e w5 ⟨rfl, hw⟩
              subst w5
              go_wp2_with fail
              go_roundg (n4 - (i + 1))
              case measure => omega
              case rel => exact ⟨i + 1, by go_num, by omega, by omega, by rw [HLN.out, List.length_append]; go_num, HM4, HR4⟩
          · have hliz : ¬ (i : Int) < (n4 : Int) := by omega
            have hin : i = n4 := by omega
            subst hin
            rw [HN.out]
            go_wp2_with fail
            go_loopg [11] (n + 1) (fun g3 v11 wj => ∃ j : Nat, v11 = .int .i64 j ∧ 1 ≤ j ∧ j ≤ n + 1 ∧ n + 1 - j ≤ g3 ∧ Hid (LwM w wj X a1 n1 c1 a2 n2 c2 a3 n3 c3 a4 i c4 a5 n5 c5 s) ∧ Hid (Rd 1 encI wj A (belowL s (k : Int) i)))
            case atStart => exact ⟨1, by go_num, by omega, by omega, by omega, HMi, HRi⟩
            case round =>
              obtain ⟨j, rfl, hj1, hj, hg3, HMj, HRj⟩ := hrel
              clear HMi HRi
              by_cases hlj : j < n
              · have hljz : (j : Int) < (n : Int) := by omega
                obtain ⟨j', hjj⟩ : ∃ j', j = j' + 1 := ⟨j - 1, by omega⟩
                have HLT := Lib.hid (HINC.out j' j (by omega) hlj)
                obtain ⟨bb, ob, hAA, hbb, hc1⟩ := HRj.out.int (k := j) (by rw [HN.out]; exact hlj)
                obtain ⟨_, _, hAA2, _, hc2⟩ := HRj.out.int (k := j') (by rw [HN.out]; omega)
                rw [hAA] at hAA2
                injection hAA2 with hAA2
                injection hAA2 with ea eb
                subst ea eb
                have hc1' : wr.cell? ⟨bb, ob + j, none⟩ = some (.int .i64 (fI (belowL s (k : Int) i) j)) := hc1
                have hc2' : wr.cell? ⟨bb, ob + j', none⟩ = some (.int .i64 (fI (belowL s (k : Int) i) j')) := hc2
                have hlt := HLT.out
                subst hAA
                have hsub2 : IntKind.i64.wrap (((j : Nat) : Int) - 1) = ((j' : Nat) : Int) := by rw [IntWalk.i64_in _ (by omega)]; omega
                have hjn : j' < n := by omega
                have hjnz : ((j' : Nat) : Int) < (n : Int) := by omega
                clear hc1 hc2 hjj
                generalize fI (belowL s (k : Int) i) j = x at *
                generalize fI (belowL s (k : Int) i) j' = y at *
                have hle : decide (x ≤ y) = false := by simp; omega
                go_wp2_with fail
                go_quiet (fail)
                go_wp2_with fail
                go_roundg (n + 1 - (j + 1))
                case measure => omega
                case rel => exact ⟨j + 1, by go_num, by omega, by omega, by omega, Lib.hid (HMj.out.drewN _), Lib.hid (HRj.out.drewN _)⟩
              · have hljz : ¬ (j : Int) < (n : Int) := by omega
                go_wp2_with fail
                go_roundg (n1 - (k + 1))
                case measure => omega
                case rel => exact ⟨k + 1, by go_num, by omega, by omega, HMj⟩)
    · have hlkz : ¬ (k : Int) < (n1 : Int) := by omega
      go_wp2_with fail
      go_ret
      exact ⟨rfl, HM.out.bel⟩
end Go.Proofs.Ytjlfnhfiiailgaa
