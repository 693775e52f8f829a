/-
The reference's Check.
-/
import Derived.Test.YtbjmpfchapggfaaGLLimG
import Derived.Test.YtbjmpfchapggfaaGLRefD
namespace Go.Proofs.Ytbjmpfchapggfaa
open Go.RowKit
set_option linter.unusedVariables false
set_option linter.unusedSimpArgs false
theorem results_ctt {P : Program} {fn : Func} {a t u : Tmp} {ty : TypeId} {tmps : Array Value} {b : Nat} {x : Value} {w : World} (h : fn.results = #[.cell a ty, .tmp t, .tmp u]) (ha : tmps.getD a undef = .pointer (some ⟨b, 0, none⟩)) (hl : (loadVar ty ⟨b, 0, none⟩).run P w = .ok x w) :
    (results fn tmps).run P w = .ok (.tuple #[x, tmps.getD t undef, tmps.getD u undef]) w := by
  have ha' : tmps[a]?.getD undef = .pointer (some ⟨b, 0, none⟩) := by simpa using ha
  simp [results, h, ha', hl, asAddr]
set_option maxRecDepth 100000 in
set_option maxHeartbeats 8000000 in
theorem r9Check_any (a1 a2 a3 a4 a5 : Option Addr) (n1 c1 n2 c2 n3 c3 n4 c4 n5 c5 : Nat) (aA : Option Addr) (nA cA : Nat) (s : GSite) (xs : List Int) (w : World) (HS : Hid (RdSite w a1 a2 a3 a4 a5 n1 n2 n3 n4 n5 s)) (HX : Hid (Rd 1 encI w aA xs)) (HNA : Hid (xs.length = nA)) (hnA : nA ≤ 9223372036854775807) :
    Calls Try.prog 27 #[.agg #[.slice a1 n1 c1, .slice a2 n2 c2, .slice a3 n3 c3, .slice a4 n4 c4, .slice a5 n5 c5], .slice aA nA cA] w fun e w' => ChPost w s xs e w' := by
  have HM0 := Lib.hid (LwM.box (c1 := c1) (c2 := c2) (c3 := c3) (c4 := c4) (c5 := c5) HS.out)
  obtain ⟨W0, hW0⟩ : ∃ W0, W0 = (w.alloc (.cells #[.slice a1 n1 c1, .slice a2 n2 c2, .slice a3 n3 c3, .slice a4 n4 c4, .slice a5 n5 c5] 28)).alloc (.cells #[.int .i64 0, .int .i64 0, .int .i64 0] 45) := ⟨_, rfl⟩
  have HM1 : Hid (LwM w W0 w.heap.size a1 n1 c1 a2 n2 c2 a3 n3 c3 a4 n4 c4 a5 n5 c5 s) := Lib.hid (by rw [hW0]; exact HM0.out.keep ((Below.refl _ _).alloc (Nat.le_refl _) _))
  have HV1 : Hid (Own W0 (w.heap.size + 1) 45 3 (v3F 0 0 0)) := Lib.hid (by
    have h := Own.three (w.alloc (.cells #[.slice a1 n1 c1, .slice a2 n2 c2, .slice a3 n3 c3, .slice a4 n4 c4, .slice a5 n5 c5] 28)) 45 0 0 0
    rw [World.size_alloc] at h
    rw [hW0]; exact h)
  have HW0 := Lib.hid hW0
  clear hW0 HM0
  go_enter Try.func27, Try.ntmps27
  go_wp2_with fail
  rw [← HW0.out]
  clear HW0
  generalize hXX : w.heap.size = X at HM1 HV1 ⊢
  have HSZ := Lib.hid hXX
  clear hXX
  refine (r8Loads_any a1 a2 a3 a4 a5 n1 c1 n2 c2 n3 c3 n4 c4 n5 c5 aA nA cA s xs W0 (Lib.hid HM1.out.rs) (Lib.hid (HX.out.keep HM1.out.bel)) HNA hnA).mono ?_
  rintro e w1 ⟨aL, cL, rfl, hrl, hb⟩
  have HM := Lib.hid (HM1.out.keep hb)
  have HV := Lib.hid (HV1.out.keep hb HV1.out.lt)
  have HRL := Lib.hid hrl
  clear hb hrl HM1 HV1
  have v0 : w1.cell? ⟨X + 1, 0, none⟩ = some (.int .i64 0) := HV.out.cell (i := 0) (by omega)
  have v1 : w1.cell? ⟨X + 1, 1, none⟩ = some (.int .i64 0) := HV.out.cell (i := 1) (by omega)
  have v2 : w1.cell? ⟨X + 1, 2, none⟩ = some (.int .i64 0) := HV.out.cell (i := 2) (by omega)
  have f0 := HV.out.frozen 0
  have f1 := HV.out.frozen 1
  have f2 := HV.out.frozen 2
  have HST : Hid (∀ (W : World), Own W (X + 1) 45 3 (v3F 0 0 0) → LwM w W X a1 n1 c1 a2 n2 c2 a3 n3 c3 a4 n4 c4 a5 n5 c5 s → ∀ a b c : Int, (loadVar 45 ⟨X + 1, 0, none⟩).run Try.prog (((W.setCell ⟨X + 1, 0, none⟩ (.int .i64 a)).setCell ⟨X + 1, 1, none⟩ (.int .i64 b)).setCell ⟨X + 1, 2, none⟩ (.int .i64 c)) = .ok (.agg #[.int .i64 a, .int .i64 b, .int .i64 c]) (((W.setCell ⟨X + 1, 0, none⟩ (.int .i64 a)).setCell ⟨X + 1, 1, none⟩ (.int .i64 b)).setCell ⟨X + 1, 2, none⟩ (.int .i64 c)) ∧ Below w.heap.size w (((W.setCell ⟨X + 1, 0, none⟩ (.int .i64 a)).setCell ⟨X + 1, 1, none⟩ (.int .i64 b)).setCell ⟨X + 1, 2, none⟩ (.int .i64 c))) := Lib.hid (fun W ho hm a b c => by
    refine ⟨load_viol (ho.set3 a b c), ?_⟩
    have hX := HSZ.out
    exact ((hm.bel.setCell (p := ⟨X + 1, 0, none⟩) (by show _ ≤ X + 1; omega) _).setCell (p := ⟨X + 1, 1, none⟩) (by show _ ≤ X + 1; omega) _).setCell (p := ⟨X + 1, 2, none⟩) (by show _ ≤ X + 1; omega) _)
  cases hlb : loadB s xs
  · have HN : Hid (vioO s xs = none) := Lib.hid (vioO_no hlb)
    generalize (loadsO s xs).length = L
    have he : errO false = 1 := rfl
    have HS3 := Lib.hid (HST.out w1 HV.out HM.out 0 0 0)
    go_wp2_with fail
    refine bodyPost_ret (results_ctt (a := 4) (t := 5) (u := 6) (ty := 45) (b := X + 1) (by kernel_rfl) rfl HS3.out.1) rfl ?_
    exact ⟨by rw [HN.out, hlb]; rfl, HS3.out.2⟩
  have HLB := Lib.hid hlb
  have hok : okSB keyL s = true := by
    cases h : okSB keyL s
    · rw [loadB_no1 h] at hlb; cases hlb
    · rfl
  have HOK := Lib.hid (okSB_iff.1 hok)
  have hcl : s.cons.length = n1 := HS.out.l1
  have hn16 : n1 ≤ 16 := by have := HOK.out.n2; omega
  have HRL2 : Hid (Rd 3 enc3 w1 aL ((List.range n1).map (row3 (loadS s (fI xs) s.chgs.length)))) := Lib.hid (by
    have h := HRL.out
    rw [loadsO_yes hlb] at h
    unfold loadsOf at h
    rw [hcl] at h
    exact h)
  have hL : (loadsO s xs).length = n1 := by rw [loadsO_yes hlb, loadsOf_len, hcl]
  have HCL := Lib.hid hcl
  rw [hL]
  have he : errO true = 0 := rfl
  clear HRL hok hcl hL hlb v0 v1 v2 f0 f1 f2
  go_wp2_with fail
  go_loopg [5, 6, 9] n1 (fun g1 v5 v6 v9 wr => ∃ i : Nat, v9 = .int .i64 i ∧ i ≤ n1 ∧ n1 - i ≤ g1 ∧ v5 = .bool false ∧ v6 = .int .i64 0 ∧ Hid (∀ t, t < i * 3 → chkL s xs t = false) ∧ Hid (LwM w wr X a1 n1 c1 a2 n2 c2 a3 n3 c3 a4 n4 c4 a5 n5 c5 s) ∧ Hid (Own wr (X + 1) 45 3 (v3F 0 0 0)) ∧ Hid (Rd 3 enc3 wr aL ((List.range n1).map (row3 (loadS s (fI xs) s.chgs.length)))))
  case atStart => exact ⟨0, by go_num, by omega, by omega, rfl, rfl, Lib.hid (fun t ht => by omega), HM, HV, HRL2⟩
  case round =>
    obtain ⟨i, rfl, hi, hg1, rfl, rfl, HA, HM, HV, HRL⟩ := hrel
    clear HRL2
    by_cases hlt : i < n1
    · have hltz : (i : Int) < (n1 : Int) := by omega
      go_wp2_with fail
      go_loopg [5, 6, 10] 3 (fun g2 v5 v6 v10 wr => ∃ p : Nat, v10 = .int .i64 p ∧ p ≤ 3 ∧ 3 - p ≤ g2 ∧ v5 = .bool false ∧ v6 = .int .i64 0 ∧ Hid (∀ t, t < i * 3 + p → chkL s xs t = false) ∧ Hid (LwM w wr X a1 n1 c1 a2 n2 c2 a3 n3 c3 a4 n4 c4 a5 n5 c5 s) ∧ Hid (Own wr (X + 1) 45 3 (v3F 0 0 0)) ∧ Hid (Rd 3 enc3 wr aL ((List.range n1).map (row3 (loadS s (fI xs) s.chgs.length)))))
      case atStart => exact ⟨0, by go_num, by omega, by omega, rfl, rfl, HA, HM, HV, HRL⟩
      case round =>
        clear HA HM HV HRL
        obtain ⟨p, rfl, hp, hg2, rfl, rfl, HA, HM, HV, HRL⟩ := hrel
        by_cases hlp : p < 3
        · have hlpz : (p : Int) < 3 := by omega
          obtain ⟨bL, oL, hAL, hbL, hld⟩ := load_at HRL.out hlt hlp
          obtain ⟨b, off, g, hA, hbl, hgx, d0, d1, d2, d3, d4, d5, d6, d7, d8, d9, d10⟩ := rdCon_at HS.out.r1 (k := i) (by rw [HCL.out]; exact hlt)
          have HCH : Hid (chkL s xs (i * 3 + p) = decide (limV g < loadS s (fI xs) s.chgs.length (i * 3 + p))) := Lib.hid (by unfold chkL limAt; rw [show (i * 3 + p) / 3 = i by omega, hgx]; rfl)
          have e0 := (HM.out.bel.cell (p := ⟨b, off + i * 11, none⟩) hbl).trans d0
          have e1 := (HM.out.bel.cell (p := ⟨b, off + i * 11 + 1, none⟩) hbl).trans d1
          have e2 := (HM.out.bel.cell (p := ⟨b, off + i * 11 + 2, none⟩) hbl).trans d2
          have e3 := (HM.out.bel.cell (p := ⟨b, off + i * 11 + 3, none⟩) hbl).trans d3
          have e4 := (HM.out.bel.cell (p := ⟨b, off + i * 11 + 4, none⟩) hbl).trans d4
          have e5 := (HM.out.bel.cell (p := ⟨b, off + i * 11 + 5, none⟩) hbl).trans d5
          have e6 := (HM.out.bel.cell (p := ⟨b, off + i * 11 + 6, none⟩) hbl).trans d6
          have e7 := (HM.out.bel.cell (p := ⟨b, off + i * 11 + 7, none⟩) hbl).trans d7
          have e8 := (HM.out.bel.cell (p := ⟨b, off + i * 11 + 8, none⟩) hbl).trans d8
          have e9 := (HM.out.bel.cell (p := ⟨b, off + i * 11 + 9, none⟩) hbl).trans d9
          have e10 := (HM.out.bel.cell (p := ⟨b, off + i * 11 + 10, none⟩) hbl).trans d10
          have HOC := Lib.hid (HOK.out.okC hgx)
          have HC : Hid (∀ W, Calls Try.prog 49 #[.agg #[.string g.name, .int .i64 g.up, .int .i64 g.limit, .int .i64 g.neutral, .int .i64 g.rated, .int .i64 g.heat, .int .i64 g.amb, .int .i64 g.most, .int .i64 g.gain, .int .i64 g.loss, .int .i64 g.den]] W fun e w' => e = .returned (.int .i64 (limV g)) ∧ Below W.heap.size W w') := Lib.hid (fun W => r9Of_ok g HOC.out W)
          have k0 := HM.out.k0
          have HRR := HRL
          clear d0 d1 d2 d3 d4 d5 d6 d7 d8 d9 d10 hgx hbl hbL
          subst hA hAL
          obtain ⟨ld, hldv⟩ : ∃ ld, ld = loadS s (fI xs) s.chgs.length (i * 3 + p) := ⟨_, rfl⟩
          rw [← hldv] at hld HCH
          have HLD := Lib.hid hldv
          clear hldv
          go_wp2_with fail
          refine region_z (S := fun w' => Below wr.heap.size wr w') [] (by kernel_rfl) (Below.refl _ _).drew (fun hHeld => ?_)
          have HCC := Lib.hid (And.intro hld (And.intro k0 (And.intro e0 (And.intro e1 (And.intro e2 (And.intro e3 (And.intro e4 (And.intro e5 (And.intro e6 (And.intro e7 (And.intro e8 (And.intro e9 e10))))))))))))
          clear e0 e1 e2 e3 e4 e5 e6 e7 e8 e9 e10 k0 hld
          refine wpAnyZ_take (i := 0) (v := .slice (some ⟨bL, oL, none⟩) n1 cL) [] rfl (by kernel_rfl) (by kernel_rfl) (by kernel_rfl) (by kernel_rfl) (fun _ _ _ h => h) (Or.inl ⟨by kernel_rfl, fun w' hSw => ?_⟩) hHeld ?_
          · obtain ⟨h0, h1, t0, t1, t2, t3, t4, t5, t6, t7, t8, t9, t10⟩ := HCC.out
            have kl : ∀ {p : Addr} {v : Value}, wr.cell? p = some v → w'.cell? p = some v := fun {p v} hp => (hSw.cell (World.block_lt_of_cell? wr p hp)).trans hp
            have h0 := kl h0
            have h1 := kl h1
            have t0 := kl t0
            have t1 := kl t1
            have t2 := kl t2
            have t3 := kl t3
            have t4 := kl t4
            have t5 := kl t5
            have t6 := kl t6
            have t7 := kl t7
            have t8 := kl t8
            have t9 := kl t9
            have t10 := kl t10
            clear kl
            clear hHeld hSw
            go_simp
          simp only [Act.put, List.getElem_toArray, List.getElem_cons_zero, List.getElem_cons_succ, List.setIfInBounds_toArray, List.set_cons_zero, List.set_cons_succ]
          refine wpAnyZ_take (i := 1) (v := .int .i64 (i : Nat)) [] rfl (by kernel_rfl) (by kernel_rfl) (by kernel_rfl) (by kernel_rfl) (fun _ _ _ h => h) (Or.inl ⟨by kernel_rfl, fun w' hSw => ?_⟩) hHeld ?_
          · obtain ⟨h0, h1, t0, t1, t2, t3, t4, t5, t6, t7, t8, t9, t10⟩ := HCC.out
            have kl : ∀ {p : Addr} {v : Value}, wr.cell? p = some v → w'.cell? p = some v := fun {p v} hp => (hSw.cell (World.block_lt_of_cell? wr p hp)).trans hp
            have h0 := kl h0
            have h1 := kl h1
            have t0 := kl t0
            have t1 := kl t1
            have t2 := kl t2
            have t3 := kl t3
            have t4 := kl t4
            have t5 := kl t5
            have t6 := kl t6
            have t7 := kl t7
            have t8 := kl t8
            have t9 := kl t9
            have t10 := kl t10
            clear kl
            clear hHeld hSw
            go_simp
          simp only [Act.put, List.getElem_toArray, List.getElem_cons_zero, List.getElem_cons_succ, List.setIfInBounds_toArray, List.set_cons_zero, List.set_cons_succ]
          refine wpAnyZ_take (i := 2) (v := .int .i64 (p : Nat)) [] rfl (by kernel_rfl) (by kernel_rfl) (by kernel_rfl) (by kernel_rfl) (fun _ _ _ h => h) (Or.inl ⟨by kernel_rfl, fun w' hSw => ?_⟩) hHeld ?_
          · obtain ⟨h0, h1, t0, t1, t2, t3, t4, t5, t6, t7, t8, t9, t10⟩ := HCC.out
            have kl : ∀ {p : Addr} {v : Value}, wr.cell? p = some v → w'.cell? p = some v := fun {p v} hp => (hSw.cell (World.block_lt_of_cell? wr p hp)).trans hp
            have h0 := kl h0
            have h1 := kl h1
            have t0 := kl t0
            have t1 := kl t1
            have t2 := kl t2
            have t3 := kl t3
            have t4 := kl t4
            have t5 := kl t5
            have t6 := kl t6
            have t7 := kl t7
            have t8 := kl t8
            have t9 := kl t9
            have t10 := kl t10
            clear kl
            clear hHeld hSw
            go_simp
          simp only [Act.put, List.getElem_toArray, List.getElem_cons_zero, List.getElem_cons_succ, List.setIfInBounds_toArray, List.set_cons_zero, List.set_cons_succ]
          refine wpAnyZ_take (i := 3) (v := .pointer (some ⟨bL, oL + i * 3, none⟩)) [] rfl (by kernel_rfl) (by kernel_rfl) (by kernel_rfl) (by kernel_rfl) (fun _ _ _ h => h) (Or.inl ⟨by kernel_rfl, fun w' hSw => ?_⟩) hHeld ?_
          · obtain ⟨h0, h1, t0, t1, t2, t3, t4, t5, t6, t7, t8, t9, t10⟩ := HCC.out
            have kl : ∀ {p : Addr} {v : Value}, wr.cell? p = some v → w'.cell? p = some v := fun {p v} hp => (hSw.cell (World.block_lt_of_cell? wr p hp)).trans hp
            have h0 := kl h0
            have h1 := kl h1
            have t0 := kl t0
            have t1 := kl t1
            have t2 := kl t2
            have t3 := kl t3
            have t4 := kl t4
            have t5 := kl t5
            have t6 := kl t6
            have t7 := kl t7
            have t8 := kl t8
            have t9 := kl t9
            have t10 := kl t10
            clear kl
            clear hHeld hSw
            go_simp
          simp only [Act.put, List.getElem_toArray, List.getElem_cons_zero, List.getElem_cons_succ, List.setIfInBounds_toArray, List.set_cons_zero, List.set_cons_succ]
          refine wpAnyZ_take (i := 4) (v := .pointer (some ⟨bL, oL + i * 3 + p, none⟩)) [] rfl (by kernel_rfl) (by kernel_rfl) (by kernel_rfl) (by kernel_rfl) (fun _ _ _ h => h) (Or.inl ⟨by kernel_rfl, fun w' hSw => ?_⟩) hHeld ?_
          · obtain ⟨h0, h1, t0, t1, t2, t3, t4, t5, t6, t7, t8, t9, t10⟩ := HCC.out
            have kl : ∀ {p : Addr} {v : Value}, wr.cell? p = some v → w'.cell? p = some v := fun {p v} hp => (hSw.cell (World.block_lt_of_cell? wr p hp)).trans hp
            have h0 := kl h0
            have h1 := kl h1
            have t0 := kl t0
            have t1 := kl t1
            have t2 := kl t2
            have t3 := kl t3
            have t4 := kl t4
            have t5 := kl t5
            have t6 := kl t6
            have t7 := kl t7
            have t8 := kl t8
            have t9 := kl t9
            have t10 := kl t10
            clear kl
            clear hHeld hSw
            go_simp
          simp only [Act.put, List.getElem_toArray, List.getElem_cons_zero, List.getElem_cons_succ, List.setIfInBounds_toArray, List.set_cons_zero, List.set_cons_succ]
          refine wpAnyZ_take (i := 5) (v := .int .i64 ld) [] rfl (by kernel_rfl) (by kernel_rfl) (by kernel_rfl) (by kernel_rfl) (fun _ _ _ h => h) (Or.inl ⟨by kernel_rfl, fun w' hSw => ?_⟩) hHeld ?_
          · obtain ⟨h0, h1, t0, t1, t2, t3, t4, t5, t6, t7, t8, t9, t10⟩ := HCC.out
            have kl : ∀ {p : Addr} {v : Value}, wr.cell? p = some v → w'.cell? p = some v := fun {p v} hp => (hSw.cell (World.block_lt_of_cell? wr p hp)).trans hp
            have h0 := kl h0
            have h1 := kl h1
            have t0 := kl t0
            have t1 := kl t1
            have t2 := kl t2
            have t3 := kl t3
            have t4 := kl t4
            have t5 := kl t5
            have t6 := kl t6
            have t7 := kl t7
            have t8 := kl t8
            have t9 := kl t9
            have t10 := kl t10
            clear kl
            clear hHeld hSw
            go_simp
          simp only [Act.put, List.getElem_toArray, List.getElem_cons_zero, List.getElem_cons_succ, List.setIfInBounds_toArray, List.set_cons_zero, List.set_cons_succ]
          refine wpAnyZ_take (i := 6) (v := .pointer (some ⟨X, 0, none⟩)) [] rfl (by kernel_rfl) (by kernel_rfl) (by kernel_rfl) (by kernel_rfl) (fun _ _ _ h => h) (Or.inl ⟨by kernel_rfl, fun w' hSw => ?_⟩) hHeld ?_
          · obtain ⟨h0, h1, t0, t1, t2, t3, t4, t5, t6, t7, t8, t9, t10⟩ := HCC.out
            have kl : ∀ {p : Addr} {v : Value}, wr.cell? p = some v → w'.cell? p = some v := fun {p v} hp => (hSw.cell (World.block_lt_of_cell? wr p hp)).trans hp
            have h0 := kl h0
            have h1 := kl h1
            have t0 := kl t0
            have t1 := kl t1
            have t2 := kl t2
            have t3 := kl t3
            have t4 := kl t4
            have t5 := kl t5
            have t6 := kl t6
            have t7 := kl t7
            have t8 := kl t8
            have t9 := kl t9
            have t10 := kl t10
            clear kl
            clear hHeld hSw
            go_simp
          simp only [Act.put, List.getElem_toArray, List.getElem_cons_zero, List.getElem_cons_succ, List.setIfInBounds_toArray, List.set_cons_zero, List.set_cons_succ]
          refine wpAnyZ_take (i := 7) (v := .slice (some ⟨b, off, none⟩) n1 c1) [] rfl (by kernel_rfl) (by kernel_rfl) (by kernel_rfl) (by kernel_rfl) (fun _ _ _ h => h) (Or.inl ⟨by kernel_rfl, fun w' hSw => ?_⟩) hHeld ?_
          · obtain ⟨h0, h1, t0, t1, t2, t3, t4, t5, t6, t7, t8, t9, t10⟩ := HCC.out
            have kl : ∀ {p : Addr} {v : Value}, wr.cell? p = some v → w'.cell? p = some v := fun {p v} hp => (hSw.cell (World.block_lt_of_cell? wr p hp)).trans hp
            have h0 := kl h0
            have h1 := kl h1
            have t0 := kl t0
            have t1 := kl t1
            have t2 := kl t2
            have t3 := kl t3
            have t4 := kl t4
            have t5 := kl t5
            have t6 := kl t6
            have t7 := kl t7
            have t8 := kl t8
            have t9 := kl t9
            have t10 := kl t10
            clear kl
            clear hHeld hSw
            go_simp
          simp only [Act.put, List.getElem_toArray, List.getElem_cons_zero, List.getElem_cons_succ, List.setIfInBounds_toArray, List.set_cons_zero, List.set_cons_succ]
          refine wpAnyZ_take (i := 8) (v := .int .i64 (i : Nat)) [] rfl (by kernel_rfl) (by kernel_rfl) (by kernel_rfl) (by kernel_rfl) (fun _ _ _ h => h) (Or.inl ⟨by kernel_rfl, fun w' hSw => ?_⟩) hHeld ?_
          · obtain ⟨h0, h1, t0, t1, t2, t3, t4, t5, t6, t7, t8, t9, t10⟩ := HCC.out
            have kl : ∀ {p : Addr} {v : Value}, wr.cell? p = some v → w'.cell? p = some v := fun {p v} hp => (hSw.cell (World.block_lt_of_cell? wr p hp)).trans hp
            have h0 := kl h0
            have h1 := kl h1
            have t0 := kl t0
            have t1 := kl t1
            have t2 := kl t2
            have t3 := kl t3
            have t4 := kl t4
            have t5 := kl t5
            have t6 := kl t6
            have t7 := kl t7
            have t8 := kl t8
            have t9 := kl t9
            have t10 := kl t10
            clear kl
            clear hHeld hSw
            go_simp
          simp only [Act.put, List.getElem_toArray, List.getElem_cons_zero, List.getElem_cons_succ, List.setIfInBounds_toArray, List.set_cons_zero, List.set_cons_succ]
          refine wpAnyZ_take (i := 9) (v := .pointer (some ⟨b, off + i * 11, none⟩)) [] rfl (by kernel_rfl) (by kernel_rfl) (by kernel_rfl) (by kernel_rfl) (fun _ _ _ h => h) (Or.inl ⟨by kernel_rfl, fun w' hSw => ?_⟩) hHeld ?_
          · obtain ⟨h0, h1, t0, t1, t2, t3, t4, t5, t6, t7, t8, t9, t10⟩ := HCC.out
            have kl : ∀ {p : Addr} {v : Value}, wr.cell? p = some v → w'.cell? p = some v := fun {p v} hp => (hSw.cell (World.block_lt_of_cell? wr p hp)).trans hp
            have h0 := kl h0
            have h1 := kl h1
            have t0 := kl t0
            have t1 := kl t1
            have t2 := kl t2
            have t3 := kl t3
            have t4 := kl t4
            have t5 := kl t5
            have t6 := kl t6
            have t7 := kl t7
            have t8 := kl t8
            have t9 := kl t9
            have t10 := kl t10
            clear kl
            clear hHeld hSw
            go_simp
          simp only [Act.put, List.getElem_toArray, List.getElem_cons_zero, List.getElem_cons_succ, List.setIfInBounds_toArray, List.set_cons_zero, List.set_cons_succ]
          refine wpAnyZ_take (i := 10) (v := .agg #[.string g.name, .int .i64 g.up, .int .i64 g.limit, .int .i64 g.neutral, .int .i64 g.rated, .int .i64 g.heat, .int .i64 g.amb, .int .i64 g.most, .int .i64 g.gain, .int .i64 g.loss, .int .i64 g.den]) [] rfl (by kernel_rfl) (by kernel_rfl) (by kernel_rfl) (by kernel_rfl) (fun _ _ _ h => h) (Or.inl ⟨by kernel_rfl, fun w' hSw => ?_⟩) hHeld ?_
          · obtain ⟨h0, h1, t0, t1, t2, t3, t4, t5, t6, t7, t8, t9, t10⟩ := HCC.out
            have kl : ∀ {p : Addr} {v : Value}, wr.cell? p = some v → w'.cell? p = some v := fun {p v} hp => (hSw.cell (World.block_lt_of_cell? wr p hp)).trans hp
            have h0 := kl h0
            have h1 := kl h1
            have t0 := kl t0
            have t1 := kl t1
            have t2 := kl t2
            have t3 := kl t3
            have t4 := kl t4
            have t5 := kl t5
            have t6 := kl t6
            have t7 := kl t7
            have t8 := kl t8
            have t9 := kl t9
            have t10 := kl t10
            clear kl
            clear hHeld hSw
            go_simp
          simp only [Act.put, List.getElem_toArray, List.getElem_cons_zero, List.getElem_cons_succ, List.setIfInBounds_toArray, List.set_cons_zero, List.set_cons_succ]
          refine wpAnyZ_one (i := 11) (by kernel_rfl) rfl (fun K' hK => ?_)
          go_simp
          refine (HC.out _).mono ?_
          rintro e w7 ⟨rfl, hb7⟩
          refine hK.out _ _ ?_ (fun hHeld' => ?_)
          · exact hHeld.trans (hb7.mono hHeld.size)
          clear hK K' hHeld
          have hHeld := hHeld'
          clear hHeld'
          try simp only [Act.put, List.getElem_toArray, List.getElem_cons_zero, List.getElem_cons_succ, List.setIfInBounds_toArray, List.set_cons_zero, List.set_cons_succ]
          refine wpAnyZ_take (i := 12) (v := .bool (decide (limV g < ld))) [] rfl (by kernel_rfl) (by kernel_rfl) (by kernel_rfl) (by kernel_rfl) (fun _ _ _ h => h) (Or.inl ⟨by kernel_rfl, fun w' hSw => ?_⟩) hHeld ?_
          · clear hHeld hSw
            go_simp
          simp only [Act.put, List.getElem_toArray, List.getElem_cons_zero, List.getElem_cons_succ, List.setIfInBounds_toArray, List.set_cons_zero, List.set_cons_succ]
          refine wpAnyZ_done (by kernel_rfl) ?_ _
          go_step
          go_step
          refine wp_world (fun W => Below wr.heap.size wr W) hHeld (fun w2 hbw => ?_)
          obtain ⟨hld, -⟩ := HCC.out
          clear hHeld
          have hld2 := (hbw.cell (p := ⟨bL, oL + i * 3 + p, none⟩) (World.block_lt_of_cell? _ _ hld)).trans hld
          have HM := Lib.hid (HM.out.keep hbw)
          have HV := Lib.hid (HV.out.keep hbw HV.out.lt)
          have HRL := Lib.hid (HRL.out.keep hbw)
          clear hbw hld HC HCC
          generalize limV g = lv at *
          by_cases hv : lv < ld
          · have HY : Hid (chkL s xs (i * 3 + p) = true) := Lib.hid (by rw [HCH.out]; exact decide_eq_true hv)
            have HSO : Hid (vioO s xs = some (i * 3 + p)) := Lib.hid (vioO_at HLB.out (by rw [HCL.out]; omega) HA.out HY.out)
            have v0 : w2.cell? ⟨X + 1, 0, none⟩ = some (.int .i64 0) := HV.out.cell (i := 0) (by omega)
            have v1 : w2.cell? ⟨X + 1, 1, none⟩ = some (.int .i64 0) := HV.out.cell (i := 1) (by omega)
            have v2 : w2.cell? ⟨X + 1, 2, none⟩ = some (.int .i64 0) := HV.out.cell (i := 2) (by omega)
            have f0 := HV.out.frozen 0
            have f1 := HV.out.frozen 1
            have f2 := HV.out.frozen 2
            have HS3 := Lib.hid (HST.out w2 HV.out HM.out (i : Int) (p : Int) ld)
            go_wp2_with fail
            refine bodyPost_ret (results_ctt (a := 4) (t := 5) (u := 6) (ty := 45) (b := X + 1) (by kernel_rfl) rfl HS3.out.1) rfl ?_
            refine ⟨?_, HS3.out.2⟩
            rw [HSO.out, HLB.out]
            have e : vioV s xs (some (i * 3 + p)) = .agg #[.int .i64 (i : Int), .int .i64 (p : Int), .int .i64 ld] := by
              show (Value.agg #[.int .i64 (((i * 3 + p) / 3 : Nat) : Int), .int .i64 (((i * 3 + p) % 3 : Nat) : Int), .int .i64 (loadS s (fI xs) s.chgs.length (i * 3 + p))]) = _
              rw [show (i * 3 + p) / 3 = i by omega, show (i * 3 + p) % 3 = p by omega, ← HLD.out]
            rw [e]
            rfl
          · have HNX : Hid (∀ t, t < i * 3 + (p + 1) → chkL s xs t = false) := Lib.hid (fun t ht => by
              rcases Nat.lt_or_ge t (i * 3 + p) with h | h
              · exact HA.out t h
              · rw [show t = i * 3 + p by omega, HCH.out]; exact decide_eq_false hv)
            go_wp2_with fail
            go_roundg (3 - (p + 1))
            case measure => omega
            case rel => exact ⟨p + 1, by go_num, by omega, by omega, rfl, rfl, HNX, HM, HV, HRL⟩
        · have hlpz : ¬ (p : Int) < 3 := by omega
          have HNX : Hid (∀ t, t < (i + 1) * 3 → chkL s xs t = false) := Lib.hid (fun t ht => HA.out t (by omega))
          go_wp2_with fail
          go_roundg (n1 - (i + 1))
          case measure => omega
          case rel => exact ⟨i + 1, by go_num, by omega, by omega, rfl, rfl, HNX, HM, HV, HRL⟩
    · have hltz : ¬ (i : Int) < (n1 : Int) := by omega
      have HSO : Hid (vioO s xs = none) := Lib.hid (vioO_all HLB.out (fun t ht => HA.out t (by rw [HCL.out] at ht; omega)))
      have v0 : wr.cell? ⟨X + 1, 0, none⟩ = some (.int .i64 0) := HV.out.cell (i := 0) (by omega)
      have v1 : wr.cell? ⟨X + 1, 1, none⟩ = some (.int .i64 0) := HV.out.cell (i := 1) (by omega)
      have v2 : wr.cell? ⟨X + 1, 2, none⟩ = some (.int .i64 0) := HV.out.cell (i := 2) (by omega)
      have f0 := HV.out.frozen 0
      have f1 := HV.out.frozen 1
      have f2 := HV.out.frozen 2
      have HS3 := Lib.hid (HST.out wr HV.out HM.out 0 0 0)
      go_wp2_with fail
      refine bodyPost_ret (results_ctt (a := 4) (t := 5) (u := 6) (ty := 45) (b := X + 1) (by kernel_rfl) rfl HS3.out.1) rfl ?_
      exact ⟨by rw [HSO.out, HLB.out]; rfl, HS3.out.2⟩
end Go.Proofs.Ytbjmpfchapggfaa
