/-
Several texts in one: BuI, BuR, BuH.
-/
import Derived.Test.YtpkonifeieepfaaGreatGBuG
/-
site.Build: declare.
-/
namespace Go.Proofs.YtpkonifeieepfaaGreat
open Go.RowKit
set_option linter.unusedVariables false
set_option linter.unusedSimpArgs false
theorem putF_thF {th : List (ByteArray × Int × Int)} {nm : ByteArray} {k i : Int} : putF (thF th) (strL nm) (.agg #[.int .i64 k, .int .i64 i]) = thF ((nm, k, i) :: th) := by
  funext kl
  by_cases e : kl = strL nm
  · subst e
    rw [putF_same]
    unfold thF strL
    simp
  · rw [putF_other e]
    unfold thF
    cases kl <;> try rfl
    rename_i l
    have hne : (nm.data.toList == l) = false := by
      rw [beq_eq_false_iff_ne]
      intro h
      apply e
      unfold strL
      rw [h]
    simp only [List.find?_cons, hne]
set_option maxRecDepth 100000 in
set_option maxHeartbeats 8000000 in
theorem stDecl5_ok (hI : NH) (x : Nd (Nd Lf)) (s : RSt) (base Rr Bd hb Nb Tb nt nn : Nat) (b : BSt) (v1 v2 v4 : Value) (w : World) (HR : Hid (RdgM w Rr Bd hI hb s)) (HB : Hid (BdM w base Bd Nb Tb nt nn b v1 v2 v4)) (hk : hI.n = 5) (hxn : x.n = 5) (hnm : hI.name = x.name) (hsz : x.name.size ≤ 8000) (hroom : roomN 5 b < 16) (hbase : base ≤ Rr) (hnt : nt ≤ 100) :
    Calls Tryz.prog 76 #[.pointer (some ⟨Rr, 0, none⟩)] w fun e w' => e = .returned (.tuple #[]) ∧ (∃ v1' v2' v4', BdM w' base Bd Nb Tb (nt + 1) nn (declB x s b) v1' v2' v4') ∧ Mod (fun j => j = Bd ∨ j = Nb ∨ j = Tb ∨ base ≤ j) w w' := by
  have HK := Lib.hid hk
  have HXN := Lib.hid hxn
  have HRM := Lib.hid hroom
  have HSZ := Lib.hid hsz
  have HBR := Lib.hid hbase
  have HNT := Lib.hid hnt
  have HNM := Lib.hid hnm
  have r0 : w.cell? ⟨Rr, 0, none⟩ = some (.pointer (some ⟨Bd, 0, none⟩)) := HR.out.cell (i := 0) (by omega)
  have r2 : w.cell? ⟨Rr, 2, none⟩ = some (.string x.name) := by have h := HR.out.cell (i := 2) (by omega); rw [← hnm]; exact h
  have r3 : w.cell? ⟨Rr, 3, none⟩ = some (.int .i64 5) := by have h := HR.out.cell (i := 3) (by omega); rw [← hk]; exact h
  have hRl : Rr < w.heap.size := HR.out.lt
  have hBl : Bd < w.heap.size := HB.out.ow.lt
  clear hk hxn hroom hsz hbase hnt hnm
  go_enter Tryz.func76, Tryz.ntmps76
  go_upto_region 0 with (fail)
  go_quiet (fail)
  go_step
  go_step
  refine wp_world (fun V => Below w.heap.size w V) (below_drewG _ (Below.refl _ _)) (fun V hbV => ?_)
  have HR1 := Lib.hid (HR.out.keep hbV HR.out.lt)
  have HB1 := Lib.hid (HB.out.keep hbV)
  have r0 := (hbV.cell (p := ⟨Rr, 0, none⟩) hRl).trans r0
  have r2 := (hbV.cell (p := ⟨Rr, 2, none⟩) hRl).trans r2
  have r3 := (hbV.cell (p := ⟨Rr, 3, none⟩) hRl).trans r3
  have hRl : Rr < V.heap.size := HR1.out.lt
  have hBl : Bd < V.heap.size := HB1.out.ow.lt
  have HV1 := Lib.hid hbV
  clear hbV
  go_upto_region 1 with (fail)
  go_quiet (first | (go_at_call 73; exact Calls.quiet_of_same (stRoom_ok 5 base Bd Nb Tb nt nn b v1 v2 v4 _ (Lib.hid (HB1.out.keep (below_drewN (Below.refl _ _) _))) (by simp))))
  go_step
  go_step
  refine wp_world (fun V2 => Below V.heap.size V V2) (below_drewG _ (Below.refl _ _)) (fun V2 hbV => ?_)
  have HR2 := Lib.hid (HR1.out.keep hbV HR1.out.lt)
  have HB2 := Lib.hid (HB1.out.keep hbV)
  have HV2 : Hid (Below w.heap.size w V2) := Lib.hid (below_then HV1.out hbV)
  have r0 := (hbV.cell (p := ⟨Rr, 0, none⟩) hRl).trans r0
  have r3 := (hbV.cell (p := ⟨Rr, 3, none⟩) hRl).trans r3
  have hRl : Rr < V2.heap.size := HR2.out.lt
  have hBl : Bd < V2.heap.size := HB2.out.ow.lt
  have b7 : V2.cell? ⟨Bd, 7, none⟩ = some (.map (some Tb)) := HB2.out.ow.cell (i := 7) (by omega)
  clear hbV HR1 HB1 HV1 r2
  obtain ⟨rm, hrm⟩ : ∃ n, n = roomN 5 b := ⟨_, rfl⟩
  rw [← hrm]
  have HRN := Lib.hid hrm
  clear hrm
  obtain ⟨W3, hpu, HT3, HM3⟩ := ((HB2.out.th.keep (below_drewN' V2)).put (Go.Maps.string_keyed Tryz.underlying9) Tryz.underlying91 (by have := HNT.out; omega) (key := .string x.name) (v := .agg #[.int .i64 5, .int .i64 (rm : Nat)]) (kl := strL x.name) (WideMaps.keyOf_string_mk Tryz.underlying9 (by have := HSZ.out; unfold maxLen; omega)) (by trivial))
  go_upto_region 2 with (fail)
  go_still_tail 15, (by kernel_rfl)
  change wpList _ _ _ _ _ V2.drew
  go_upto_region 3 with (fail)
  clear hpu b7
  have HM3v : Hid (Mod (fun j => j = Tb) V2 W3) := Lib.hid ((modB (below_drewN' V2)).trans HM3.out)
  have HRT : Hid (Rr ≠ Tb ∧ Rr ≠ Bd) := Lib.hid (by have := HB2.out.ly; have := HBR.out; omega)
  have HR3 := Lib.hid (HR2.out.mod HM3v.out HRT.out.1)
  have r3 : W3.cell? ⟨Rr, 3, none⟩ = some (.int .i64 5) := by have h := HR3.out.cell (i := 3) (by omega); rw [← HK.out]; exact h
  have hRl : Rr < W3.heap.size := HR3.out.lt
  have hBl : Bd < W3.heap.size := Nat.lt_of_lt_of_le hBl HM3v.out.size
  have n22 : W3.cell? ⟨Rr, 22, none⟩ = some (.string s.chg.name) := HR3.out.cell (i := 22) (by omega)
  have f22 := HR3.out.frozen 22
  go_upto_region 17 with (fail)
  obtain ⟨V5, hV5⟩ : ∃ W, W = W3.setCell ⟨Rr, 22, none⟩ (.string x.name) := ⟨_, rfl⟩
  have HR5 : Hid (RdgM V5 Rr Bd hI hb { s with chg := { s.chg with name := x.name } }) := Lib.hid (by rw [hV5]; exact RdgM.set HR3.out 22 (.string x.name) (by decide))
  have HM5 : Hid (Mod (fun j => j = Rr) W3 V5) := Lib.hid (by rw [hV5]; exact (show Mod (fun j => j = Rr) W3 W3 from Mod.refl _ W3).setCell (p := ⟨Rr, 22, none⟩) (.inl rfl) _)
  rw [← hV5]
  clear hV5 n22 f22
  have HMt : Hid (Mod (fun j => j = Tb ∨ j = Rr) V2 V5) := Lib.hid ((HM3v.out.mono (fun j _ e => .inl e)).trans (HM5.out.mono (fun j _ e => .inr e)))
  have hnb : ∀ (j : Nat), Bd ≠ Tb ∧ Bd ≠ Rr := fun j => by have := HB2.out.ly; have := HRT.out; omega
  have HBO : Hid (BdO V5 Bd v1 v2 v4 Nb Tb b.fd) := Lib.hid (HB2.out.ow.mod HMt.out (by have := HB2.out.ly; have := HRT.out; omega))
  have HTV : Hid (ValM Tryz.prog 9 V5 Tb (nt + 1) (putF (thF b.th) (strL x.name) (.agg #[.int .i64 5, .int .i64 (rm : Nat)]))) := Lib.hid (HT3.out.mod HM5.out (fun e => HRT.out.1 e.symm))
  have hne : ∀ {α : Type} {t : TypeId} {sz : Nat} {enc : α → List Value} {v : Value} {xs : List α}, OwnR t sz enc V2 base v xs → t ≠ 137 → OwnR t sz enc V5 base v xs := fun h ht => h.mod HMt.out (fun j hj e => by
    rcases e with e | e
    · have h1 := (World.ownsRow.lt h j hj).1
      have := HB2.out.ly
      omega
    · exact ownR_ne HR2.out h (fun e2 => ht e2.symm) j hj e)
  have HL1 := Lib.hid (hne HB2.out.l1 (by decide))
  have HL2 := Lib.hid (hne HB2.out.l2 (by decide))
  have HL4 := Lib.hid (hne HB2.out.l4 (by decide))
  have HNS : Hid (SetM Tryz.prog 9 4 V5 Nb nn (b.names.map Lit.string)) := Lib.hid (HB2.out.nm.modA HMt.out (by have := HB2.out.ly; have := HBR.out; omega))
  have HBS : Hid (base ≤ V5.heap.size) := Lib.hid (by have := HB2.out.ly; have := HMt.out.size; omega)
  have HMw5 : Hid (Mod (fun j => j = Bd ∨ j = Nb ∨ j = Tb ∨ base ≤ j) w V5) := Lib.hid ((modB HV2.out).trans (HMt.out.mono (fun j _ e => by have := HBR.out; rcases e with e | e <;> simp [e]; omega)))
  have HLE : Hid (b.chgs.length ≤ 16) := Lib.hid (by have := HB2.out.ln; omega)
  obtain ⟨va, vc, hvs⟩ := HL4.out.shape
  obtain ⟨vn, hvn⟩ : ∃ n, n = b.chgs.length := ⟨_, rfl⟩
  rw [← hvn] at hvs
  clear hvn hne hnb
  subst hvs
  have HLST := HL4
  have b0 : V5.cell? ⟨Bd, 3, none⟩ = some (.slice va vn vc) := HBO.out.cell (i := 3) (by omega)
  have hBl : Bd < V5.heap.size := HBO.out.lt
  have hRl : Rr < V5.heap.size := HR5.out.lt
  have k22 : V5.cell? ⟨Rr, 22, none⟩ = some (.string x.name) := HR5.out.cell (i := 22) (by omega)
  have k23 : V5.cell? ⟨Rr, 23, none⟩ = some (.int .i64 s.chg.place) := HR5.out.cell (i := 23) (by omega)
  have k24 : V5.cell? ⟨Rr, 24, none⟩ = some (.int .i64 s.chg.ph) := HR5.out.cell (i := 24) (by omega)
  have k25 : V5.cell? ⟨Rr, 25, none⟩ = some (.int .i64 s.chg.mn) := HR5.out.cell (i := 25) (by omega)
  have k26 : V5.cell? ⟨Rr, 26, none⟩ = some (.int .i64 s.chg.mx) := HR5.out.cell (i := 26) (by omega)
  have k27 : V5.cell? ⟨Rr, 27, none⟩ = some (.int .i64 s.chg.step) := HR5.out.cell (i := 27) (by omega)
  have k28 : V5.cell? ⟨Rr, 28, none⟩ = some (.int .i64 s.chg.fb) := HR5.out.cell (i := 28) (by omega)
  have k29 : V5.cell? ⟨Rr, 29, none⟩ = some (.int .i64 s.chg.own) := HR5.out.cell (i := 29) (by omega)
  refine region_k (S := fun w' => Below V5.heap.size V5 w') [10, 13] (by kernel_rfl) (below_drewN' V5) (fun hHeld => ?_)
  obtain ⟨wd, hwd⟩ : ∃ wd, wd = V5.drew := ⟨_, rfl⟩
  rw [← hwd] at hHeld ⊢
  clear hwd
  refine wpAnyK_pure (i := 0) (v := .pointer (some ⟨Bd, 0, none⟩)) rfl (by kernel_rfl) (by kernel_rfl) (by kernel_rfl) (fun _ _ _ h => h) (Or.inl ⟨by kernel_rfl, fun w' _ => ?_⟩) ?_
  · clear hHeld
    go_simp
  simp only [Act.put, List.getElem_toArray, List.getElem_cons_zero, List.getElem_cons_succ, List.setIfInBounds_toArray, List.set_cons_zero, List.set_cons_succ]
  refine wpAnyK_pure (i := 1) (v := .pointer (some ⟨Bd, 0, none⟩)) rfl (by kernel_rfl) (by kernel_rfl) (by kernel_rfl) (fun _ _ _ h => h) (Or.inl ⟨by kernel_rfl, fun w' _ => ?_⟩) ?_
  · clear hHeld
    go_simp
  simp only [Act.put, List.getElem_toArray, List.getElem_cons_zero, List.getElem_cons_succ, List.setIfInBounds_toArray, List.set_cons_zero, List.set_cons_succ]
  refine wpAnyK_pure (i := 2) (v := .pointer (some ⟨Bd, 0, none⟩)) rfl (by kernel_rfl) (by kernel_rfl) (by kernel_rfl) (fun _ _ _ h => h) (Or.inl ⟨by kernel_rfl, fun w' _ => ?_⟩) ?_
  · clear hHeld
    go_simp
  simp only [Act.put, List.getElem_toArray, List.getElem_cons_zero, List.getElem_cons_succ, List.setIfInBounds_toArray, List.set_cons_zero, List.set_cons_succ]
  refine wpAnyK_pure (i := 3) (v := .pointer (some ⟨Bd, 3, none⟩)) rfl (by kernel_rfl) (by kernel_rfl) (by kernel_rfl) (fun _ _ _ h => h) (Or.inl ⟨by kernel_rfl, fun w' _ => ?_⟩) ?_
  · clear hHeld
    go_simp
  simp only [Act.put, List.getElem_toArray, List.getElem_cons_zero, List.getElem_cons_succ, List.setIfInBounds_toArray, List.set_cons_zero, List.set_cons_succ]
  refine wpAnyK_take (i := 4) (v := .slice va vn vc) [10, 13] rfl (by kernel_rfl) (by kernel_rfl) (by kernel_rfl) (by kernel_rfl) (fun _ _ _ h => h) (Or.inl ⟨by kernel_rfl, fun w' hSw => ?_⟩) hHeld ?_
  · have s0 := (hSw.cell (p := ⟨Bd, 3, none⟩) hBl).trans b0
    have s1 : Bd < w'.heap.size := Nat.lt_of_lt_of_le hBl hSw.size
    have s2 : Rr < w'.heap.size := Nat.lt_of_lt_of_le hRl hSw.size
    clear hHeld hSw
    go_simp
  simp only [Act.put, List.getElem_toArray, List.getElem_cons_zero, List.getElem_cons_succ, List.setIfInBounds_toArray, List.set_cons_zero, List.set_cons_succ]
  refine wpAnyK_pure (i := 5) (v := .pointer (some ⟨Rr, 0, none⟩)) rfl (by kernel_rfl) (by kernel_rfl) (by kernel_rfl) (fun _ _ _ h => h) (Or.inl ⟨by kernel_rfl, fun w' _ => ?_⟩) ?_
  · clear hHeld
    go_simp
  simp only [Act.put, List.getElem_toArray, List.getElem_cons_zero, List.getElem_cons_succ, List.setIfInBounds_toArray, List.set_cons_zero, List.set_cons_succ]
  refine wpAnyK_pure (i := 6) (v := .pointer (some ⟨Rr, 0, none⟩)) rfl (by kernel_rfl) (by kernel_rfl) (by kernel_rfl) (fun _ _ _ h => h) (Or.inl ⟨by kernel_rfl, fun w' _ => ?_⟩) ?_
  · clear hHeld
    go_simp
  simp only [Act.put, List.getElem_toArray, List.getElem_cons_zero, List.getElem_cons_succ, List.setIfInBounds_toArray, List.set_cons_zero, List.set_cons_succ]
  refine wpAnyK_pure (i := 7) (v := .pointer (some ⟨Rr, 22, none⟩)) rfl (by kernel_rfl) (by kernel_rfl) (by kernel_rfl) (fun _ _ _ h => h) (Or.inl ⟨by kernel_rfl, fun w' _ => ?_⟩) ?_
  · clear hHeld
    go_simp
  simp only [Act.put, List.getElem_toArray, List.getElem_cons_zero, List.getElem_cons_succ, List.setIfInBounds_toArray, List.set_cons_zero, List.set_cons_succ]
  refine wpAnyK_take (i := 8) (v := .agg #[.string x.name, .int .i64 s.chg.place, .int .i64 s.chg.ph, .int .i64 s.chg.mn, .int .i64 s.chg.mx, .int .i64 s.chg.step, .int .i64 s.chg.fb, .int .i64 s.chg.own]) [9, 10, 13] rfl (by kernel_rfl) (by kernel_rfl) (by kernel_rfl) (by kernel_rfl) (fun _ _ _ h => h) (Or.inl ⟨by kernel_rfl, fun w' hSw => ?_⟩) hHeld ?_
  · have s0 := (hSw.cell (p := ⟨Bd, 3, none⟩) hBl).trans b0
    have s1 : Bd < w'.heap.size := Nat.lt_of_lt_of_le hBl hSw.size
    have s2 : Rr < w'.heap.size := Nat.lt_of_lt_of_le hRl hSw.size
    have q22 := (hSw.cell (p := ⟨Rr, 22, none⟩) hRl).trans k22
    have q23 := (hSw.cell (p := ⟨Rr, 23, none⟩) hRl).trans k23
    have q24 := (hSw.cell (p := ⟨Rr, 24, none⟩) hRl).trans k24
    have q25 := (hSw.cell (p := ⟨Rr, 25, none⟩) hRl).trans k25
    have q26 := (hSw.cell (p := ⟨Rr, 26, none⟩) hRl).trans k26
    have q27 := (hSw.cell (p := ⟨Rr, 27, none⟩) hRl).trans k27
    have q28 := (hSw.cell (p := ⟨Rr, 28, none⟩) hRl).trans k28
    have q29 := (hSw.cell (p := ⟨Rr, 29, none⟩) hRl).trans k29
    clear hHeld hSw
    go_simp
  simp only [Act.put, List.getElem_toArray, List.getElem_cons_zero, List.getElem_cons_succ, List.setIfInBounds_toArray, List.set_cons_zero, List.set_cons_succ]
  refine wpAnyK_one (i := 9) (by kernel_rfl) rfl (fun K' hK => ?_)
  go_simp
  refine hK.out _ _ (fun h => h.alloc h.size _) ?_
  clear hK K'
  try simp only [Act.put, List.getElem_toArray, List.getElem_cons_zero, List.getElem_cons_succ, List.setIfInBounds_toArray, List.set_cons_zero, List.set_cons_succ]
  have HHd := Lib.hid hHeld
  have HL := Lib.hid (HLST.out.keepB hHeld)
  obtain ⟨ap, v', w6, av, aw, HL6, HA6⟩ := app_litM (t := 25) (ty := 25) (c := 1) (lit := #[.string x.name, .int .i64 s.chg.place, .int .i64 s.chg.ph, .int .i64 s.chg.mn, .int .i64 s.chg.mx, .int .i64 s.chg.step, .int .i64 s.chg.fb, .int .i64 s.chg.own]) (ys := [({ s.chg with name := x.name } : GChg)]) (m := 1) appInfoChg Tryz.underlying25 rfl (by omega) encChg_len encChg_one HL.out (by have := HHd.out.size; have := HBS.out; omega) rfl rfl (by have := HLE.out; omega) (by omega)
  refine wpAnyK_last (i := 10) (by kernel_rfl) rfl (by kernel_rfl) (fun K' hK => ?_)
  rw [if_pos (by rfl)]
  refine append_go rfl rfl ap av aw ?_
  refine hK.out _ _ ?_
  clear hK K' ap av aw
  try simp only [Act.put, List.getElem_toArray, List.getElem_cons_zero, List.getElem_cons_succ, List.setIfInBounds_toArray, List.set_cons_zero, List.set_cons_succ]
  obtain ⟨sa, sc, hsv⟩ := HL6.out.shape
  obtain ⟨sn, hsn⟩ : ∃ n, n = (b.chgs ++ [({ s.chg with name := x.name } : GChg)]).length := ⟨_, rfl⟩
  rw [← hsn] at hsv
  subst hsv
  clear hsn
  refine wpAnyK_pure (i := 11) (v := .pointer (some ⟨Bd, 0, none⟩)) rfl (by kernel_rfl) (by kernel_rfl) (by kernel_rfl) (fun _ _ _ h => h) (Or.inl ⟨by kernel_rfl, fun w' _ => ?_⟩) ?_
  · clear hHeld
    go_simp
  simp only [Act.put, List.getElem_toArray, List.getElem_cons_zero, List.getElem_cons_succ, List.setIfInBounds_toArray, List.set_cons_zero, List.set_cons_succ]
  refine wpAnyK_pure (i := 12) (v := .pointer (some ⟨Bd, 3, none⟩)) rfl (by kernel_rfl) (by kernel_rfl) (by kernel_rfl) (fun _ _ _ h => h) (Or.inl ⟨by kernel_rfl, fun w' _ => ?_⟩) ?_
  · clear hHeld
    go_simp
  simp only [Act.put, List.getElem_toArray, List.getElem_cons_zero, List.getElem_cons_succ, List.setIfInBounds_toArray, List.set_cons_zero, List.set_cons_succ]
  have HMO6 : Hid (Mod (fun j => (Value.slice va vn vc).ownBlock = some j) V5 w6) := Lib.hid ((modB HHd.out).trans HA6.out)
  have HB6 : Hid (BdO w6 Bd v1 v2 (.slice va vn vc) Nb Tb b.fd) := Lib.hid (HBO.out.mod HMO6.out (fun e => (ownR_ne HBO.out HLST.out (by decide)) _ e rfl))
  have bc : w6.cell? ⟨Bd, 3, none⟩ = some (.slice va vn vc) := HB6.out.cell (i := 3) (by omega)
  have bf := HB6.out.frozen 3
  have hBl : Bd < w6.heap.size := HB6.out.lt
  refine wpAnyK_last (i := 13) (by kernel_rfl) rfl (by kernel_rfl) (fun K' hK => ?_)
  go_simp
  refine hK.out _ _ ?_
  clear hK K' hHeld
  try simp only [Act.put, List.getElem_toArray, List.getElem_cons_zero, List.getElem_cons_succ, List.setIfInBounds_toArray, List.set_cons_zero, List.set_cons_succ]
  refine wpAnyK_done (by kernel_rfl) ?_ _
  go_step
  go_step
  go_wp2_with fail
  go_end0
  have HWF : Hid (Mod (fun j => j = Bd) w6 (w6.setCell ⟨Bd, 3, none⟩ (.slice sa sn sc))) := Lib.hid ((show Mod (fun j => j = Bd) w6 w6 from Mod.refl _ w6).setCell (p := ⟨Bd, 3, none⟩) (.inl rfl) _)
  have HO1 := Lib.hid ((HL1.out.mod HMO6.out (fun j hj e => ownRR_ne HL1.out HLST.out (by decide) j hj e)).mod HWF.out (fun j hj e => ownR_ne HB6.out (HL1.out.mod HMO6.out (fun j hj e => ownRR_ne HL1.out HLST.out (by decide) j hj e)) (by decide) j hj e))
  have HO2 := Lib.hid ((HL2.out.mod HMO6.out (fun j hj e => ownRR_ne HL2.out HLST.out (by decide) j hj e)).mod HWF.out (fun j hj e => ownR_ne HB6.out (HL2.out.mod HMO6.out (fun j hj e => ownRR_ne HL2.out HLST.out (by decide) j hj e)) (by decide) j hj e))
  have HO4 := Lib.hid (HL6.out.mod HWF.out (fun j hj e => ownR_ne HB6.out HL6.out (by decide) j hj e))
  have hob : ∀ j, (Value.slice va vn vc).ownBlock = some j → base ≤ j := fun j hj => (World.ownsRow.lt HLST.out j hj).1
  refine ⟨rfl, ⟨v1, v2, (.slice sa sn sc), ?_⟩, (HMw5.out.trans (HMO6.out.mono (fun j _ e => .inr (.inr (.inr (hob j e)))))).trans (HWF.out.mono (fun j _ e => .inl e))⟩
  refine ⟨?_, ?_, ?_, ?_, ?_, ?_, ?_, ?_⟩
  · refine (Own.set HB6.out 3 (.slice sa sn sc)).congr (fun i hi => ?_)
    match i, hi with
    | 0, _ => rfl
    | 1, _ => rfl
    | 2, _ => rfl
    | 3, _ => rfl
    | 4, _ => rfl
    | 5, _ => rfl
    | 6, _ => rfl
    | 7, _ => rfl
    | 8, _ => rfl
  · have h := HO1.out
    unfold declB
    simp only [HXN.out]
    exact h
  · have h := HO2.out
    unfold declB
    simp only [HXN.out]
    exact h
  · have h := HO4.out
    unfold declB
    simp only [HXN.out]
    exact h
  · have h := (HTV.out.mod HMO6.out (fun e => by have := hob _ e; have := HB2.out.ly; omega)).mod HWF.out (by have := HB2.out.ly; omega)
    rw [putF_thF] at h
    unfold declB
    simp only [HXN.out]
    rw [← HRN.out]
    exact h
  · have h := (HNS.out.modA HMO6.out (fun e => by have := hob _ e; have := HB2.out.ly; omega)).modA HWF.out (by have := HB2.out.ly; omega)
    exact h
  · have h1 := HB2.out.ly
    have h2 := HMO6.out.size
    have h3 := HWF.out.size
    have h4 := HBS.out
    exact ⟨h1.1, h1.2.1, h1.2.2.1, h1.2.2.2.1, h1.2.2.2.2.1, h1.2.2.2.2.2.1, by omega⟩
  · have h1 := HB2.out.ln
    have h2 := HRM.out
    unfold declB
    simp only [HXN.out]
    unfold roomN at h2
    simp at h2 ⊢
    omega
set_option maxRecDepth 100000 in
set_option maxHeartbeats 8000000 in
theorem stDecl1_ok (hI : NH) (x : Nd (Nd Lf)) (s : RSt) (base Rr Bd hb Nb Tb nt nn : Nat) (b : BSt) (v1 v2 v4 : Value) (w : World) (HR : Hid (RdgM w Rr Bd hI hb s)) (HB : Hid (BdM w base Bd Nb Tb nt nn b v1 v2 v4)) (hk : hI.n = 1) (hxn : x.n = 1) (hnm : hI.name = x.name) (hsz : x.name.size ≤ 8000) (hroom : roomN 1 b < 16) (hbase : base ≤ Rr) (hnt : nt ≤ 100) :
    Calls Tryz.prog 76 #[.pointer (some ⟨Rr, 0, none⟩)] w fun e w' => e = .returned (.tuple #[]) ∧ (∃ v1' v2' v4', BdM w' base Bd Nb Tb (nt + 1) nn (declB x s b) v1' v2' v4') ∧ Mod (fun j => j = Bd ∨ j = Nb ∨ j = Tb ∨ base ≤ j) w w' := by
  have HK := Lib.hid hk
  have HXN := Lib.hid hxn
  have HRM := Lib.hid hroom
  have HSZ := Lib.hid hsz
  have HBR := Lib.hid hbase
  have HNT := Lib.hid hnt
  have HNM := Lib.hid hnm
  have r0 : w.cell? ⟨Rr, 0, none⟩ = some (.pointer (some ⟨Bd, 0, none⟩)) := HR.out.cell (i := 0) (by omega)
  have r2 : w.cell? ⟨Rr, 2, none⟩ = some (.string x.name) := by have h := HR.out.cell (i := 2) (by omega); rw [← hnm]; exact h
  have r3 : w.cell? ⟨Rr, 3, none⟩ = some (.int .i64 1) := by have h := HR.out.cell (i := 3) (by omega); rw [← hk]; exact h
  have hRl : Rr < w.heap.size := HR.out.lt
  have hBl : Bd < w.heap.size := HB.out.ow.lt
  clear hk hxn hroom hsz hbase hnt hnm
  go_enter Tryz.func76, Tryz.ntmps76
  go_upto_region 0 with (fail)
  go_quiet (fail)
  go_step
  go_step
  refine wp_world (fun V => Below w.heap.size w V) (below_drewG _ (Below.refl _ _)) (fun V hbV => ?_)
  have HR1 := Lib.hid (HR.out.keep hbV HR.out.lt)
  have HB1 := Lib.hid (HB.out.keep hbV)
  have r0 := (hbV.cell (p := ⟨Rr, 0, none⟩) hRl).trans r0
  have r2 := (hbV.cell (p := ⟨Rr, 2, none⟩) hRl).trans r2
  have r3 := (hbV.cell (p := ⟨Rr, 3, none⟩) hRl).trans r3
  have hRl : Rr < V.heap.size := HR1.out.lt
  have hBl : Bd < V.heap.size := HB1.out.ow.lt
  have HV1 := Lib.hid hbV
  clear hbV
  go_upto_region 1 with (fail)
  go_quiet (first | (go_at_call 73; exact Calls.quiet_of_same (stRoom_ok 1 base Bd Nb Tb nt nn b v1 v2 v4 _ (Lib.hid (HB1.out.keep (below_drewN (Below.refl _ _) _))) (by simp))))
  go_step
  go_step
  refine wp_world (fun V2 => Below V.heap.size V V2) (below_drewG _ (Below.refl _ _)) (fun V2 hbV => ?_)
  have HR2 := Lib.hid (HR1.out.keep hbV HR1.out.lt)
  have HB2 := Lib.hid (HB1.out.keep hbV)
  have HV2 : Hid (Below w.heap.size w V2) := Lib.hid (below_then HV1.out hbV)
  have r0 := (hbV.cell (p := ⟨Rr, 0, none⟩) hRl).trans r0
  have r3 := (hbV.cell (p := ⟨Rr, 3, none⟩) hRl).trans r3
  have hRl : Rr < V2.heap.size := HR2.out.lt
  have hBl : Bd < V2.heap.size := HB2.out.ow.lt
  have b7 : V2.cell? ⟨Bd, 7, none⟩ = some (.map (some Tb)) := HB2.out.ow.cell (i := 7) (by omega)
  clear hbV HR1 HB1 HV1 r2
  obtain ⟨rm, hrm⟩ : ∃ n, n = roomN 1 b := ⟨_, rfl⟩
  rw [← hrm]
  have HRN := Lib.hid hrm
  clear hrm
  obtain ⟨W3, hpu, HT3, HM3⟩ := ((HB2.out.th.keep (below_drewN' V2)).put (Go.Maps.string_keyed Tryz.underlying9) Tryz.underlying91 (by have := HNT.out; omega) (key := .string x.name) (v := .agg #[.int .i64 1, .int .i64 (rm : Nat)]) (kl := strL x.name) (WideMaps.keyOf_string_mk Tryz.underlying9 (by have := HSZ.out; unfold maxLen; omega)) (by trivial))
  go_upto_region 2 with (fail)
  go_still_tail 15, (by kernel_rfl)
  change wpList _ _ _ _ _ V2.drew
  go_upto_region 3 with (fail)
  clear hpu b7
  have HM3v : Hid (Mod (fun j => j = Tb) V2 W3) := Lib.hid ((modB (below_drewN' V2)).trans HM3.out)
  have HRT : Hid (Rr ≠ Tb ∧ Rr ≠ Bd) := Lib.hid (by have := HB2.out.ly; have := HBR.out; omega)
  have HR3 := Lib.hid (HR2.out.mod HM3v.out HRT.out.1)
  have r3 : W3.cell? ⟨Rr, 3, none⟩ = some (.int .i64 1) := by have h := HR3.out.cell (i := 3) (by omega); rw [← HK.out]; exact h
  have hRl : Rr < W3.heap.size := HR3.out.lt
  have hBl : Bd < W3.heap.size := Nat.lt_of_lt_of_le hBl HM3v.out.size
  have n7 : W3.cell? ⟨Rr, 7, none⟩ = some (.string s.con.name) := HR3.out.cell (i := 7) (by omega)
  have f7 := HR3.out.frozen 7
  have n8 : W3.cell? ⟨Rr, 8, none⟩ = some (.int .i64 s.con.up) := HR3.out.cell (i := 8) (by omega)
  have f8 := HR3.out.frozen 8
  go_upto_region 6 with (fail)
  obtain ⟨V5, hV5⟩ : ∃ W, W = (W3.setCell ⟨Rr, 7, none⟩ (.string x.name)).setCell ⟨Rr, 8, none⟩ (.int .i64 (-1)) := ⟨_, rfl⟩
  have HR5 : Hid (RdgM V5 Rr Bd hI hb { s with con := { s.con with name := x.name, up := -1 } }) := Lib.hid (by rw [hV5]; exact RdgM.set (RdgM.set (s' := { s with con := { s.con with name := x.name } }) HR3.out 7 (.string x.name) (by decide)) 8 (.int .i64 (-1)) (by decide))
  have HM5 : Hid (Mod (fun j => j = Rr) W3 V5) := Lib.hid (by rw [hV5]; exact ((show Mod (fun j => j = Rr) W3 W3 from Mod.refl _ W3).setCell (p := ⟨Rr, 7, none⟩) (.inl rfl) _).setCell (p := ⟨Rr, 8, none⟩) (.inl rfl) _)
  rw [← hV5]
  clear hV5 n7 f7 n8 f8
  have HMt : Hid (Mod (fun j => j = Tb ∨ j = Rr) V2 V5) := Lib.hid ((HM3v.out.mono (fun j _ e => .inl e)).trans (HM5.out.mono (fun j _ e => .inr e)))
  have hnb : ∀ (j : Nat), Bd ≠ Tb ∧ Bd ≠ Rr := fun j => by have := HB2.out.ly; have := HRT.out; omega
  have HBO : Hid (BdO V5 Bd v1 v2 v4 Nb Tb b.fd) := Lib.hid (HB2.out.ow.mod HMt.out (by have := HB2.out.ly; have := HRT.out; omega))
  have HTV : Hid (ValM Tryz.prog 9 V5 Tb (nt + 1) (putF (thF b.th) (strL x.name) (.agg #[.int .i64 1, .int .i64 (rm : Nat)]))) := Lib.hid (HT3.out.mod HM5.out (fun e => HRT.out.1 e.symm))
  have hne : ∀ {α : Type} {t : TypeId} {sz : Nat} {enc : α → List Value} {v : Value} {xs : List α}, OwnR t sz enc V2 base v xs → t ≠ 137 → OwnR t sz enc V5 base v xs := fun h ht => h.mod HMt.out (fun j hj e => by
    rcases e with e | e
    · have h1 := (World.ownsRow.lt h j hj).1
      have := HB2.out.ly
      omega
    · exact ownR_ne HR2.out h (fun e2 => ht e2.symm) j hj e)
  have HL1 := Lib.hid (hne HB2.out.l1 (by decide))
  have HL2 := Lib.hid (hne HB2.out.l2 (by decide))
  have HL4 := Lib.hid (hne HB2.out.l4 (by decide))
  have HNS : Hid (SetM Tryz.prog 9 4 V5 Nb nn (b.names.map Lit.string)) := Lib.hid (HB2.out.nm.modA HMt.out (by have := HB2.out.ly; have := HBR.out; omega))
  have HBS : Hid (base ≤ V5.heap.size) := Lib.hid (by have := HB2.out.ly; have := HMt.out.size; omega)
  have HMw5 : Hid (Mod (fun j => j = Bd ∨ j = Nb ∨ j = Tb ∨ base ≤ j) w V5) := Lib.hid ((modB HV2.out).trans (HMt.out.mono (fun j _ e => by have := HBR.out; rcases e with e | e <;> simp [e]; omega)))
  have HLE : Hid (b.cons.length ≤ 16) := Lib.hid (by have := HB2.out.ln; omega)
  obtain ⟨va, vc, hvs⟩ := HL1.out.shape
  obtain ⟨vn, hvn⟩ : ∃ n, n = b.cons.length := ⟨_, rfl⟩
  rw [← hvn] at hvs
  clear hvn hne hnb
  subst hvs
  have HLST := HL1
  have b0 : V5.cell? ⟨Bd, 0, none⟩ = some (.slice va vn vc) := HBO.out.cell (i := 0) (by omega)
  have hBl : Bd < V5.heap.size := HBO.out.lt
  have hRl : Rr < V5.heap.size := HR5.out.lt
  have k7 : V5.cell? ⟨Rr, 7, none⟩ = some (.string x.name) := HR5.out.cell (i := 7) (by omega)
  have k8 : V5.cell? ⟨Rr, 8, none⟩ = some (.int .i64 (-1)) := HR5.out.cell (i := 8) (by omega)
  have k9 : V5.cell? ⟨Rr, 9, none⟩ = some (.int .i64 s.con.limit) := HR5.out.cell (i := 9) (by omega)
  have k10 : V5.cell? ⟨Rr, 10, none⟩ = some (.int .i64 s.con.neutral) := HR5.out.cell (i := 10) (by omega)
  have k11 : V5.cell? ⟨Rr, 11, none⟩ = some (.int .i64 s.con.rated) := HR5.out.cell (i := 11) (by omega)
  have k12 : V5.cell? ⟨Rr, 12, none⟩ = some (.int .i64 s.con.heat) := HR5.out.cell (i := 12) (by omega)
  have k13 : V5.cell? ⟨Rr, 13, none⟩ = some (.int .i64 s.con.amb) := HR5.out.cell (i := 13) (by omega)
  have k14 : V5.cell? ⟨Rr, 14, none⟩ = some (.int .i64 s.con.most) := HR5.out.cell (i := 14) (by omega)
  have k15 : V5.cell? ⟨Rr, 15, none⟩ = some (.int .i64 s.con.gain) := HR5.out.cell (i := 15) (by omega)
  have k16 : V5.cell? ⟨Rr, 16, none⟩ = some (.int .i64 s.con.loss) := HR5.out.cell (i := 16) (by omega)
  have k17 : V5.cell? ⟨Rr, 17, none⟩ = some (.int .i64 s.con.den) := HR5.out.cell (i := 17) (by omega)
  refine region_k (S := fun w' => Below V5.heap.size V5 w') [10, 13] (by kernel_rfl) (below_drewN' V5) (fun hHeld => ?_)
  obtain ⟨wd, hwd⟩ : ∃ wd, wd = V5.drew := ⟨_, rfl⟩
  rw [← hwd] at hHeld ⊢
  clear hwd
  refine wpAnyK_pure (i := 0) (v := .pointer (some ⟨Bd, 0, none⟩)) rfl (by kernel_rfl) (by kernel_rfl) (by kernel_rfl) (fun _ _ _ h => h) (Or.inl ⟨by kernel_rfl, fun w' _ => ?_⟩) ?_
  · clear hHeld
    go_simp
  simp only [Act.put, List.getElem_toArray, List.getElem_cons_zero, List.getElem_cons_succ, List.setIfInBounds_toArray, List.set_cons_zero, List.set_cons_succ]
  refine wpAnyK_pure (i := 1) (v := .pointer (some ⟨Bd, 0, none⟩)) rfl (by kernel_rfl) (by kernel_rfl) (by kernel_rfl) (fun _ _ _ h => h) (Or.inl ⟨by kernel_rfl, fun w' _ => ?_⟩) ?_
  · clear hHeld
    go_simp
  simp only [Act.put, List.getElem_toArray, List.getElem_cons_zero, List.getElem_cons_succ, List.setIfInBounds_toArray, List.set_cons_zero, List.set_cons_succ]
  refine wpAnyK_pure (i := 2) (v := .pointer (some ⟨Bd, 0, none⟩)) rfl (by kernel_rfl) (by kernel_rfl) (by kernel_rfl) (fun _ _ _ h => h) (Or.inl ⟨by kernel_rfl, fun w' _ => ?_⟩) ?_
  · clear hHeld
    go_simp
  simp only [Act.put, List.getElem_toArray, List.getElem_cons_zero, List.getElem_cons_succ, List.setIfInBounds_toArray, List.set_cons_zero, List.set_cons_succ]
  refine wpAnyK_pure (i := 3) (v := .pointer (some ⟨Bd, 0, none⟩)) rfl (by kernel_rfl) (by kernel_rfl) (by kernel_rfl) (fun _ _ _ h => h) (Or.inl ⟨by kernel_rfl, fun w' _ => ?_⟩) ?_
  · clear hHeld
    go_simp
  simp only [Act.put, List.getElem_toArray, List.getElem_cons_zero, List.getElem_cons_succ, List.setIfInBounds_toArray, List.set_cons_zero, List.set_cons_succ]
  refine wpAnyK_take (i := 4) (v := .slice va vn vc) [10, 13] rfl (by kernel_rfl) (by kernel_rfl) (by kernel_rfl) (by kernel_rfl) (fun _ _ _ h => h) (Or.inl ⟨by kernel_rfl, fun w' hSw => ?_⟩) hHeld ?_
  · have s0 := (hSw.cell (p := ⟨Bd, 0, none⟩) hBl).trans b0
    have s1 : Bd < w'.heap.size := Nat.lt_of_lt_of_le hBl hSw.size
    have s2 : Rr < w'.heap.size := Nat.lt_of_lt_of_le hRl hSw.size
    clear hHeld hSw
    go_simp
  simp only [Act.put, List.getElem_toArray, List.getElem_cons_zero, List.getElem_cons_succ, List.setIfInBounds_toArray, List.set_cons_zero, List.set_cons_succ]
  refine wpAnyK_pure (i := 5) (v := .pointer (some ⟨Rr, 0, none⟩)) rfl (by kernel_rfl) (by kernel_rfl) (by kernel_rfl) (fun _ _ _ h => h) (Or.inl ⟨by kernel_rfl, fun w' _ => ?_⟩) ?_
  · clear hHeld
    go_simp
  simp only [Act.put, List.getElem_toArray, List.getElem_cons_zero, List.getElem_cons_succ, List.setIfInBounds_toArray, List.set_cons_zero, List.set_cons_succ]
  refine wpAnyK_pure (i := 6) (v := .pointer (some ⟨Rr, 0, none⟩)) rfl (by kernel_rfl) (by kernel_rfl) (by kernel_rfl) (fun _ _ _ h => h) (Or.inl ⟨by kernel_rfl, fun w' _ => ?_⟩) ?_
  · clear hHeld
    go_simp
  simp only [Act.put, List.getElem_toArray, List.getElem_cons_zero, List.getElem_cons_succ, List.setIfInBounds_toArray, List.set_cons_zero, List.set_cons_succ]
  refine wpAnyK_pure (i := 7) (v := .pointer (some ⟨Rr, 7, none⟩)) rfl (by kernel_rfl) (by kernel_rfl) (by kernel_rfl) (fun _ _ _ h => h) (Or.inl ⟨by kernel_rfl, fun w' _ => ?_⟩) ?_
  · clear hHeld
    go_simp
  simp only [Act.put, List.getElem_toArray, List.getElem_cons_zero, List.getElem_cons_succ, List.setIfInBounds_toArray, List.set_cons_zero, List.set_cons_succ]
  refine wpAnyK_take (i := 8) (v := .agg #[.string x.name, .int .i64 (-1), .int .i64 s.con.limit, .int .i64 s.con.neutral, .int .i64 s.con.rated, .int .i64 s.con.heat, .int .i64 s.con.amb, .int .i64 s.con.most, .int .i64 s.con.gain, .int .i64 s.con.loss, .int .i64 s.con.den]) [9, 10, 13] rfl (by kernel_rfl) (by kernel_rfl) (by kernel_rfl) (by kernel_rfl) (fun _ _ _ h => h) (Or.inl ⟨by kernel_rfl, fun w' hSw => ?_⟩) hHeld ?_
  · have s0 := (hSw.cell (p := ⟨Bd, 0, none⟩) hBl).trans b0
    have s1 : Bd < w'.heap.size := Nat.lt_of_lt_of_le hBl hSw.size
    have s2 : Rr < w'.heap.size := Nat.lt_of_lt_of_le hRl hSw.size
    have q7 := (hSw.cell (p := ⟨Rr, 7, none⟩) hRl).trans k7
    have q8 := (hSw.cell (p := ⟨Rr, 8, none⟩) hRl).trans k8
    have q9 := (hSw.cell (p := ⟨Rr, 9, none⟩) hRl).trans k9
    have q10 := (hSw.cell (p := ⟨Rr, 10, none⟩) hRl).trans k10
    have q11 := (hSw.cell (p := ⟨Rr, 11, none⟩) hRl).trans k11
    have q12 := (hSw.cell (p := ⟨Rr, 12, none⟩) hRl).trans k12
    have q13 := (hSw.cell (p := ⟨Rr, 13, none⟩) hRl).trans k13
    have q14 := (hSw.cell (p := ⟨Rr, 14, none⟩) hRl).trans k14
    have q15 := (hSw.cell (p := ⟨Rr, 15, none⟩) hRl).trans k15
    have q16 := (hSw.cell (p := ⟨Rr, 16, none⟩) hRl).trans k16
    have q17 := (hSw.cell (p := ⟨Rr, 17, none⟩) hRl).trans k17
    clear hHeld hSw
    go_simp
  simp only [Act.put, List.getElem_toArray, List.getElem_cons_zero, List.getElem_cons_succ, List.setIfInBounds_toArray, List.set_cons_zero, List.set_cons_succ]
  refine wpAnyK_one (i := 9) (by kernel_rfl) rfl (fun K' hK => ?_)
  go_simp
  refine hK.out _ _ (fun h => h.alloc h.size _) ?_
  clear hK K'
  try simp only [Act.put, List.getElem_toArray, List.getElem_cons_zero, List.getElem_cons_succ, List.setIfInBounds_toArray, List.set_cons_zero, List.set_cons_succ]
  have HHd := Lib.hid hHeld
  have HL := Lib.hid (HLST.out.keepB hHeld)
  obtain ⟨ap, v', w6, av, aw, HL6, HA6⟩ := app_litM (t := 22) (ty := 22) (c := 1) (lit := #[.string x.name, .int .i64 (-1), .int .i64 s.con.limit, .int .i64 s.con.neutral, .int .i64 s.con.rated, .int .i64 s.con.heat, .int .i64 s.con.amb, .int .i64 s.con.most, .int .i64 s.con.gain, .int .i64 s.con.loss, .int .i64 s.con.den]) (ys := [({ s.con with name := x.name, up := -1 } : GCon)]) (m := 1) appInfoCon Tryz.underlying22 rfl (by omega) encCon_len encCon_one HL.out (by have := HHd.out.size; have := HBS.out; omega) rfl rfl (by have := HLE.out; omega) (by omega)
  refine wpAnyK_last (i := 10) (by kernel_rfl) rfl (by kernel_rfl) (fun K' hK => ?_)
  rw [if_pos (by rfl)]
  refine append_go rfl rfl ap av aw ?_
  refine hK.out _ _ ?_
  clear hK K' ap av aw
  try simp only [Act.put, List.getElem_toArray, List.getElem_cons_zero, List.getElem_cons_succ, List.setIfInBounds_toArray, List.set_cons_zero, List.set_cons_succ]
  obtain ⟨sa, sc, hsv⟩ := HL6.out.shape
  obtain ⟨sn, hsn⟩ : ∃ n, n = (b.cons ++ [({ s.con with name := x.name, up := -1 } : GCon)]).length := ⟨_, rfl⟩
  rw [← hsn] at hsv
  subst hsv
  clear hsn
  refine wpAnyK_pure (i := 11) (v := .pointer (some ⟨Bd, 0, none⟩)) rfl (by kernel_rfl) (by kernel_rfl) (by kernel_rfl) (fun _ _ _ h => h) (Or.inl ⟨by kernel_rfl, fun w' _ => ?_⟩) ?_
  · clear hHeld
    go_simp
  simp only [Act.put, List.getElem_toArray, List.getElem_cons_zero, List.getElem_cons_succ, List.setIfInBounds_toArray, List.set_cons_zero, List.set_cons_succ]
  refine wpAnyK_pure (i := 12) (v := .pointer (some ⟨Bd, 0, none⟩)) rfl (by kernel_rfl) (by kernel_rfl) (by kernel_rfl) (fun _ _ _ h => h) (Or.inl ⟨by kernel_rfl, fun w' _ => ?_⟩) ?_
  · clear hHeld
    go_simp
  simp only [Act.put, List.getElem_toArray, List.getElem_cons_zero, List.getElem_cons_succ, List.setIfInBounds_toArray, List.set_cons_zero, List.set_cons_succ]
  have HMO6 : Hid (Mod (fun j => (Value.slice va vn vc).ownBlock = some j) V5 w6) := Lib.hid ((modB HHd.out).trans HA6.out)
  have HB6 : Hid (BdO w6 Bd (.slice va vn vc) v2 v4 Nb Tb b.fd) := Lib.hid (HBO.out.mod HMO6.out (fun e => (ownR_ne HBO.out HLST.out (by decide)) _ e rfl))
  have bc : w6.cell? ⟨Bd, 0, none⟩ = some (.slice va vn vc) := HB6.out.cell (i := 0) (by omega)
  have bf := HB6.out.frozen 0
  have hBl : Bd < w6.heap.size := HB6.out.lt
  refine wpAnyK_last (i := 13) (by kernel_rfl) rfl (by kernel_rfl) (fun K' hK => ?_)
  go_simp
  refine hK.out _ _ ?_
  clear hK K' hHeld
  try simp only [Act.put, List.getElem_toArray, List.getElem_cons_zero, List.getElem_cons_succ, List.setIfInBounds_toArray, List.set_cons_zero, List.set_cons_succ]
  refine wpAnyK_done (by kernel_rfl) ?_ _
  go_step
  go_step
  go_wp2_with fail
  go_end0
  have HWF : Hid (Mod (fun j => j = Bd) w6 (w6.setCell ⟨Bd, 0, none⟩ (.slice sa sn sc))) := Lib.hid ((show Mod (fun j => j = Bd) w6 w6 from Mod.refl _ w6).setCell (p := ⟨Bd, 0, none⟩) (.inl rfl) _)
  have HO1 := Lib.hid (HL6.out.mod HWF.out (fun j hj e => ownR_ne HB6.out HL6.out (by decide) j hj e))
  have HO2 := Lib.hid ((HL2.out.mod HMO6.out (fun j hj e => ownRR_ne HL2.out HLST.out (by decide) j hj e)).mod HWF.out (fun j hj e => ownR_ne HB6.out (HL2.out.mod HMO6.out (fun j hj e => ownRR_ne HL2.out HLST.out (by decide) j hj e)) (by decide) j hj e))
  have HO4 := Lib.hid ((HL4.out.mod HMO6.out (fun j hj e => ownRR_ne HL4.out HLST.out (by decide) j hj e)).mod HWF.out (fun j hj e => ownR_ne HB6.out (HL4.out.mod HMO6.out (fun j hj e => ownRR_ne HL4.out HLST.out (by decide) j hj e)) (by decide) j hj e))
  have hob : ∀ j, (Value.slice va vn vc).ownBlock = some j → base ≤ j := fun j hj => (World.ownsRow.lt HLST.out j hj).1
  refine ⟨rfl, ⟨(.slice sa sn sc), v2, v4, ?_⟩, (HMw5.out.trans (HMO6.out.mono (fun j _ e => .inr (.inr (.inr (hob j e)))))).trans (HWF.out.mono (fun j _ e => .inl e))⟩
  refine ⟨?_, ?_, ?_, ?_, ?_, ?_, ?_, ?_⟩
  · refine (Own.set HB6.out 0 (.slice sa sn sc)).congr (fun i hi => ?_)
    match i, hi with
    | 0, _ => rfl
    | 1, _ => rfl
    | 2, _ => rfl
    | 3, _ => rfl
    | 4, _ => rfl
    | 5, _ => rfl
    | 6, _ => rfl
    | 7, _ => rfl
    | 8, _ => rfl
  · have h := HO1.out
    unfold declB
    simp only [HXN.out]
    exact h
  · have h := HO2.out
    unfold declB
    simp only [HXN.out]
    exact h
  · have h := HO4.out
    unfold declB
    simp only [HXN.out]
    exact h
  · have h := (HTV.out.mod HMO6.out (fun e => by have := hob _ e; have := HB2.out.ly; omega)).mod HWF.out (by have := HB2.out.ly; omega)
    rw [putF_thF] at h
    unfold declB
    simp only [HXN.out]
    rw [← HRN.out]
    exact h
  · have h := (HNS.out.modA HMO6.out (fun e => by have := hob _ e; have := HB2.out.ly; omega)).modA HWF.out (by have := HB2.out.ly; omega)
    exact h
  · have h1 := HB2.out.ly
    have h2 := HMO6.out.size
    have h3 := HWF.out.size
    have h4 := HBS.out
    exact ⟨h1.1, h1.2.1, h1.2.2.1, h1.2.2.2.1, h1.2.2.2.2.1, h1.2.2.2.2.2.1, by omega⟩
  · have h1 := HB2.out.ln
    have h2 := HRM.out
    unfold declB
    simp only [HXN.out]
    unfold roomN at h2
    simp at h2 ⊢
    omega
set_option maxRecDepth 100000 in
set_option maxHeartbeats 8000000 in
theorem stDecl3_ok (hI : NH) (x : Nd (Nd Lf)) (s : RSt) (base Rr Bd hb Nb Tb nt nn : Nat) (b : BSt) (v1 v2 v4 : Value) (w : World) (HR : Hid (RdgM w Rr Bd hI hb s)) (HB : Hid (BdM w base Bd Nb Tb nt nn b v1 v2 v4)) (hk : hI.n = 3) (hxn : x.n = 3) (hnm : hI.name = x.name) (hsz : x.name.size ≤ 8000) (hroom : roomN 3 b < 8) (hbase : base ≤ Rr) (hnt : nt ≤ 100) :
    Calls Tryz.prog 76 #[.pointer (some ⟨Rr, 0, none⟩)] w fun e w' => e = .returned (.tuple #[]) ∧ (∃ v1' v2' v4', BdM w' base Bd Nb Tb (nt + 1) nn (declB x s b) v1' v2' v4') ∧ Mod (fun j => j = Bd ∨ j = Nb ∨ j = Tb ∨ base ≤ j) w w' := by
  have HK := Lib.hid hk
  have HXN := Lib.hid hxn
  have HRM := Lib.hid hroom
  have HSZ := Lib.hid hsz
  have HBR := Lib.hid hbase
  have HNT := Lib.hid hnt
  have HNM := Lib.hid hnm
  have r0 : w.cell? ⟨Rr, 0, none⟩ = some (.pointer (some ⟨Bd, 0, none⟩)) := HR.out.cell (i := 0) (by omega)
  have r2 : w.cell? ⟨Rr, 2, none⟩ = some (.string x.name) := by have h := HR.out.cell (i := 2) (by omega); rw [← hnm]; exact h
  have r3 : w.cell? ⟨Rr, 3, none⟩ = some (.int .i64 3) := by have h := HR.out.cell (i := 3) (by omega); rw [← hk]; exact h
  have hRl : Rr < w.heap.size := HR.out.lt
  have hBl : Bd < w.heap.size := HB.out.ow.lt
  clear hk hxn hroom hsz hbase hnt hnm
  go_enter Tryz.func76, Tryz.ntmps76
  go_upto_region 0 with (fail)
  go_quiet (fail)
  go_step
  go_step
  refine wp_world (fun V => Below w.heap.size w V) (below_drewG _ (Below.refl _ _)) (fun V hbV => ?_)
  have HR1 := Lib.hid (HR.out.keep hbV HR.out.lt)
  have HB1 := Lib.hid (HB.out.keep hbV)
  have r0 := (hbV.cell (p := ⟨Rr, 0, none⟩) hRl).trans r0
  have r2 := (hbV.cell (p := ⟨Rr, 2, none⟩) hRl).trans r2
  have r3 := (hbV.cell (p := ⟨Rr, 3, none⟩) hRl).trans r3
  have hRl : Rr < V.heap.size := HR1.out.lt
  have hBl : Bd < V.heap.size := HB1.out.ow.lt
  have HV1 := Lib.hid hbV
  clear hbV
  go_upto_region 1 with (fail)
  go_quiet (first | (go_at_call 73; exact Calls.quiet_of_same (stRoom_ok 3 base Bd Nb Tb nt nn b v1 v2 v4 _ (Lib.hid (HB1.out.keep (below_drewN (Below.refl _ _) _))) (by simp))))
  go_step
  go_step
  refine wp_world (fun V2 => Below V.heap.size V V2) (below_drewG _ (Below.refl _ _)) (fun V2 hbV => ?_)
  have HR2 := Lib.hid (HR1.out.keep hbV HR1.out.lt)
  have HB2 := Lib.hid (HB1.out.keep hbV)
  have HV2 : Hid (Below w.heap.size w V2) := Lib.hid (below_then HV1.out hbV)
  have r0 := (hbV.cell (p := ⟨Rr, 0, none⟩) hRl).trans r0
  have r3 := (hbV.cell (p := ⟨Rr, 3, none⟩) hRl).trans r3
  have hRl : Rr < V2.heap.size := HR2.out.lt
  have hBl : Bd < V2.heap.size := HB2.out.ow.lt
  have b7 : V2.cell? ⟨Bd, 7, none⟩ = some (.map (some Tb)) := HB2.out.ow.cell (i := 7) (by omega)
  clear hbV HR1 HB1 HV1 r2
  obtain ⟨rm, hrm⟩ : ∃ n, n = roomN 3 b := ⟨_, rfl⟩
  rw [← hrm]
  have HRN := Lib.hid hrm
  clear hrm
  obtain ⟨W3, hpu, HT3, HM3⟩ := ((HB2.out.th.keep (below_drewN' V2)).put (Go.Maps.string_keyed Tryz.underlying9) Tryz.underlying91 (by have := HNT.out; omega) (key := .string x.name) (v := .agg #[.int .i64 3, .int .i64 (rm : Nat)]) (kl := strL x.name) (WideMaps.keyOf_string_mk Tryz.underlying9 (by have := HSZ.out; unfold maxLen; omega)) (by trivial))
  go_upto_region 2 with (fail)
  go_still_tail 15, (by kernel_rfl)
  change wpList _ _ _ _ _ V2.drew
  go_upto_region 3 with (fail)
  clear hpu b7
  have HM3v : Hid (Mod (fun j => j = Tb) V2 W3) := Lib.hid ((modB (below_drewN' V2)).trans HM3.out)
  have HRT : Hid (Rr ≠ Tb ∧ Rr ≠ Bd) := Lib.hid (by have := HB2.out.ly; have := HBR.out; omega)
  have HR3 := Lib.hid (HR2.out.mod HM3v.out HRT.out.1)
  have r3 : W3.cell? ⟨Rr, 3, none⟩ = some (.int .i64 3) := by have h := HR3.out.cell (i := 3) (by omega); rw [← HK.out]; exact h
  have hRl : Rr < W3.heap.size := HR3.out.lt
  have hBl : Bd < W3.heap.size := Nat.lt_of_lt_of_le hBl HM3v.out.size
  go_upto_region 11 with (fail)
  obtain ⟨V5, hV5⟩ : ∃ W, W = W3 := ⟨_, rfl⟩
  have HR5 : Hid (RdgM V5 Rr Bd hI hb s) := Lib.hid (by rw [hV5]; exact HR3.out)
  have HM5 : Hid (Mod (fun j => j = Rr) W3 V5) := Lib.hid (by rw [hV5]; exact Mod.refl _ _)
  rw [← hV5]
  clear hV5
  have HMt : Hid (Mod (fun j => j = Tb ∨ j = Rr) V2 V5) := Lib.hid ((HM3v.out.mono (fun j _ e => .inl e)).trans (HM5.out.mono (fun j _ e => .inr e)))
  have hnb : ∀ (j : Nat), Bd ≠ Tb ∧ Bd ≠ Rr := fun j => by have := HB2.out.ly; have := HRT.out; omega
  have HBO : Hid (BdO V5 Bd v1 v2 v4 Nb Tb b.fd) := Lib.hid (HB2.out.ow.mod HMt.out (by have := HB2.out.ly; have := HRT.out; omega))
  have HTV : Hid (ValM Tryz.prog 9 V5 Tb (nt + 1) (putF (thF b.th) (strL x.name) (.agg #[.int .i64 3, .int .i64 (rm : Nat)]))) := Lib.hid (HT3.out.mod HM5.out (fun e => HRT.out.1 e.symm))
  have hne : ∀ {α : Type} {t : TypeId} {sz : Nat} {enc : α → List Value} {v : Value} {xs : List α}, OwnR t sz enc V2 base v xs → t ≠ 137 → OwnR t sz enc V5 base v xs := fun h ht => h.mod HMt.out (fun j hj e => by
    rcases e with e | e
    · have h1 := (World.ownsRow.lt h j hj).1
      have := HB2.out.ly
      omega
    · exact ownR_ne HR2.out h (fun e2 => ht e2.symm) j hj e)
  have HL1 := Lib.hid (hne HB2.out.l1 (by decide))
  have HL2 := Lib.hid (hne HB2.out.l2 (by decide))
  have HL4 := Lib.hid (hne HB2.out.l4 (by decide))
  have HNS : Hid (SetM Tryz.prog 9 4 V5 Nb nn (b.names.map Lit.string)) := Lib.hid (HB2.out.nm.modA HMt.out (by have := HB2.out.ly; have := HBR.out; omega))
  have HBS : Hid (base ≤ V5.heap.size) := Lib.hid (by have := HB2.out.ly; have := HMt.out.size; omega)
  have HMw5 : Hid (Mod (fun j => j = Bd ∨ j = Nb ∨ j = Tb ∨ base ≤ j) w V5) := Lib.hid ((modB HV2.out).trans (HMt.out.mono (fun j _ e => by have := HBR.out; rcases e with e | e <;> simp [e]; omega)))
  have HLE : Hid (b.owns.length ≤ 16) := Lib.hid (by have := HB2.out.ln; omega)
  obtain ⟨va, vc, hvs⟩ := HL2.out.shape
  obtain ⟨vn, hvn⟩ : ∃ n, n = b.owns.length := ⟨_, rfl⟩
  rw [← hvn] at hvs
  clear hvn hne hnb
  subst hvs
  have HLST := HL2
  have b0 : V5.cell? ⟨Bd, 1, none⟩ = some (.slice va vn vc) := HBO.out.cell (i := 1) (by omega)
  have hBl : Bd < V5.heap.size := HBO.out.lt
  have hRl : Rr < V5.heap.size := HR5.out.lt
  obtain ⟨ap, v', w6, av, aw, HL6, HA6⟩ := app_litM (t := 23) (ty := 23) (c := 1) (lit := #[.string x.name]) (ys := [x.name]) (m := 1) appInfoOwner Tryz.underlying23 rfl (by omega) encS_len encS_one HLST.out HBS.out rfl rfl (by have := HLE.out; omega) (by omega)
  obtain ⟨sa, sc, hsv⟩ := HL6.out.shape
  obtain ⟨sn, hsn⟩ : ∃ n, n = (b.owns ++ [x.name]).length := ⟨_, rfl⟩
  rw [← hsn] at hsv
  subst hsv
  clear hsn
  have HMO6 : Hid (Mod (fun j => (Value.slice va vn vc).ownBlock = some j) V5 w6) := HA6
  have HB6 : Hid (BdO w6 Bd v1 (.slice va vn vc) v4 Nb Tb b.fd) := Lib.hid (HBO.out.mod HMO6.out (fun e => (ownR_ne HBO.out HLST.out (by decide)) _ e rfl))
  have bc : w6.cell? ⟨Bd, 1, none⟩ = some (.slice va vn vc) := HB6.out.cell (i := 1) (by omega)
  have bf := HB6.out.frozen 1
  have hBl6 : Bd < w6.heap.size := HB6.out.lt
  go_wp2_with fail
  go_end0
  have HWF : Hid (Mod (fun j => j = Bd) w6 (w6.setCell ⟨Bd, 1, none⟩ (.slice sa sn sc))) := Lib.hid ((show Mod (fun j => j = Bd) w6 w6 from Mod.refl _ w6).setCell (p := ⟨Bd, 1, none⟩) (.inl rfl) _)
  have HO1 := Lib.hid ((HL1.out.mod HMO6.out (fun j hj e => ownRR_ne HL1.out HLST.out (by decide) j hj e)).mod HWF.out (fun j hj e => ownR_ne HB6.out (HL1.out.mod HMO6.out (fun j hj e => ownRR_ne HL1.out HLST.out (by decide) j hj e)) (by decide) j hj e))
  have HO2 := Lib.hid (HL6.out.mod HWF.out (fun j hj e => ownR_ne HB6.out HL6.out (by decide) j hj e))
  have HO4 := Lib.hid ((HL4.out.mod HMO6.out (fun j hj e => ownRR_ne HL4.out HLST.out (by decide) j hj e)).mod HWF.out (fun j hj e => ownR_ne HB6.out (HL4.out.mod HMO6.out (fun j hj e => ownRR_ne HL4.out HLST.out (by decide) j hj e)) (by decide) j hj e))
  have hob : ∀ j, (Value.slice va vn vc).ownBlock = some j → base ≤ j := fun j hj => (World.ownsRow.lt HLST.out j hj).1
  refine ⟨rfl, ⟨v1, (.slice sa sn sc), v4, ?_⟩, (HMw5.out.trans (HMO6.out.mono (fun j _ e => .inr (.inr (.inr (hob j e)))))).trans (HWF.out.mono (fun j _ e => .inl e))⟩
  refine ⟨?_, ?_, ?_, ?_, ?_, ?_, ?_, ?_⟩
  · refine (Own.set HB6.out 1 (.slice sa sn sc)).congr (fun i hi => ?_)
    match i, hi with
    | 0, _ => rfl
    | 1, _ => rfl
    | 2, _ => rfl
    | 3, _ => rfl
    | 4, _ => rfl
    | 5, _ => rfl
    | 6, _ => rfl
    | 7, _ => rfl
    | 8, _ => rfl
  · have h := HO1.out
    unfold declB
    simp only [HXN.out]
    exact h
  · have h := HO2.out
    unfold declB
    simp only [HXN.out]
    exact h
  · have h := HO4.out
    unfold declB
    simp only [HXN.out]
    exact h
  · have h := (HTV.out.mod HMO6.out (fun e => by have := hob _ e; have := HB2.out.ly; omega)).mod HWF.out (by have := HB2.out.ly; omega)
    rw [putF_thF] at h
    unfold declB
    simp only [HXN.out]
    rw [← HRN.out]
    exact h
  · have h := (HNS.out.modA HMO6.out (fun e => by have := hob _ e; have := HB2.out.ly; omega)).modA HWF.out (by have := HB2.out.ly; omega)
    exact h
  · have h1 := HB2.out.ly
    have h2 := HMO6.out.size
    have h3 := HWF.out.size
    have h4 := HBS.out
    exact ⟨h1.1, h1.2.1, h1.2.2.1, h1.2.2.2.1, h1.2.2.2.2.1, h1.2.2.2.2.2.1, by omega⟩
  · have h1 := HB2.out.ln
    have h2 := HRM.out
    unfold declB
    simp only [HXN.out]
    unfold roomN at h2
    simp at h2 ⊢
    omega
end Go.Proofs.YtpkonifeieepfaaGreat
/-
site.Build: read.
-/
namespace Go.Proofs.YtpkonifeieepfaaGreat
open Go.RowKit
set_option linter.unusedVariables false
set_option linter.unusedSimpArgs false
theorem stepI_some {x : Nd (Nd Lf)} {b b' : BSt} (h : stepI x b = some b') : x.name.data.toList ∉ b.names ∧ ¬ (x.n = 1 ∧ b.fd = true) ∧ (x.n = 1 ∨ x.n = 3 ∨ x.n = 5) ∧ roomN x.n b < (if x.n = 3 then 8 else 16) ∧ x.name.size ≤ 8000 ∧ ∃ s seen, runA b.th x.n x.kids [] zeroS = some (s, seen) ∧ wholeD x.n seen s = true ∧ b' = declI x s b := by
  unfold stepI at h
  by_cases g : (!b.names.contains x.name.data.toList && !(x.n == 1 && b.fd) && (x.n == 1 || x.n == 3 || x.n == 5) && decide (roomN x.n b < (if x.n = 3 then 8 else 16)) && decide (x.name.size ≤ 8000)) = true
  · rw [if_pos g] at h
    simp only [Bool.and_eq_true, Bool.not_eq_true', Bool.or_eq_true, beq_iff_eq, decide_eq_true_eq] at g
    obtain ⟨⟨⟨⟨g1, g2⟩, g3⟩, g4⟩, g5⟩ := g
    refine ⟨fun hm => ?_, fun ⟨h1, h2⟩ => ?_, ?_, g4, g5, ?_⟩
    · rw [Bool.eq_false_iff] at g1
      exact g1 (List.contains_iff_mem.2 hm)
    · rw [h1, h2] at g2; cases g2
    · rcases g3 with (h | h) | h
      · exact .inl h
      · exact .inr (.inl h)
      · exact .inr (.inr h)
    · cases hr : runA b.th x.n x.kids [] zeroS with
      | none => rw [hr] at h; cases h
      | some z =>
        obtain ⟨s, seen⟩ := z
        rw [hr] at h
        simp only at h
        by_cases hw : wholeD x.n seen s = true
        · rw [if_pos hw] at h
          injection h with h
          exact ⟨s, seen, rfl, hw, h.symm⟩
        · rw [if_neg hw] at h; cases h
  · rw [if_neg g] at h; cases h
set_option maxRecDepth 100000 in
set_option maxHeartbeats 4000000 in
theorem stRead1_idle (a : Value) (w : World) : CallsD Tryz.prog 72 #[a] .returning w fun e u' w' => e = .returned (.tuple #[]) ∧ u' = .returning ∧ w = w' := by
  refine callsD_of_wpS Tryz.func72 rfl fun c₀ cs hu => ?_
  apply wpS_seq
  apply wpS_region
  simp [wpOpsS, go_sem, recoverD, hu, Tryz.ntmps72, Exit.thenS]
  apply wpS_seq
  apply wpS_region
  simp [wpOpsS, go_sem, Exit.thenS]
  refine wpS_cond (t := false) (by simp [go_sem]) ?_
  rw [if_neg (by simp)]
  apply wpS_of_wp
  refine wp_skip ?_
  cases c₀
  simp_all [Exit.thenS, bodyPostS, results, Tryz.results72]
theorem rdg_new (w : World) (Bd : Nat) (h : NH) (hb g : Nat) (hg : w.heap.size = g) : RdgM (w.alloc (.cells #[.pointer (some ⟨Bd, 0, none⟩), .int .i64 h.kind, .string h.name, .int .i64 h.n, .int .i64 (h.pos : Nat), .slice h.a h.len h.c, .map (some hb), .string ⟨#[]⟩, .int .i64 0, .int .i64 0, .int .i64 0, .int .i64 0, .int .i64 0, .int .i64 0, .int .i64 0, .int .i64 0, .int .i64 0, .int .i64 0, .string ⟨#[]⟩, .int .i64 0, .int .i64 0, .int .i64 0, .string ⟨#[]⟩, .int .i64 0, .int .i64 0, .int .i64 0, .int .i64 0, .int .i64 0, .int .i64 0, .int .i64 0, .string ⟨#[]⟩, .int .i64 0] 137)) g Bd h hb zeroS := by
  subst hg
  have k := Own.new w 137 (rdgL Bd h hb zeroS).toArray undef
  exact k.congr (fun i hi => by rw [List.getElem?_toArray])
theorem stDecl_ok (hI : NH) (x : Nd (Nd Lf)) (s : RSt) (base Rr Bd hb Nb Tb nt nn : Nat) (b : BSt) (v1 v2 v4 : Value) (w : World) (HR : Hid (RdgM w Rr Bd hI hb s)) (HB : Hid (BdM w base Bd Nb Tb nt nn b v1 v2 v4)) (hk : hI.n = x.n) (h3 : x.n = 1 ∨ x.n = 3 ∨ x.n = 5) (hnm : hI.name = x.name) (hsz : x.name.size ≤ 8000) (hroom : roomN x.n b < if x.n = 3 then 8 else 16) (hbase : base ≤ Rr) (hnt : nt ≤ 100) :
    Calls Tryz.prog 76 #[.pointer (some ⟨Rr, 0, none⟩)] w fun e w' => e = .returned (.tuple #[]) ∧ (∃ v1' v2' v4', BdM w' base Bd Nb Tb (nt + 1) nn (declB x s b) v1' v2' v4') ∧ Mod (fun j => j = Bd ∨ j = Nb ∨ j = Tb ∨ base ≤ j) w w' := by
  rcases h3 with h | h | h
  · exact stDecl1_ok hI x s base Rr Bd hb Nb Tb nt nn b v1 v2 v4 w HR HB (hk.trans h) h hnm hsz (by rw [h] at hroom; exact hroom) hbase hnt
  · exact stDecl3_ok hI x s base Rr Bd hb Nb Tb nt nn b v1 v2 v4 w HR HB (hk.trans h) h hnm hsz (by rw [h] at hroom; exact hroom) hbase hnt
  · exact stDecl5_ok hI x s base Rr Bd hb Nb Tb nt nn b v1 v2 v4 w HR HB (hk.trans h) h hnm hsz (by rw [h] at hroom; exact hroom) hbase hnt
set_option maxRecDepth 100000 in
set_option maxHeartbeats 8000000 in
theorem stRead_ok (hI : NH) (x : Nd (Nd Lf)) (lo hi lr hr base Bd Nb Tb nt nn Mb Sa Bb Sc : Nat) (b b' : BSt) (v1 v2 v4 : Value) (w : World) (hok : okNd (okNd okLf) w lo hi hI x) (HB : Hid (BdM w base Bd Nb Tb nt nn b v1 v2 v4)) (HU : Hid (RulesB w lr hr Mb (ruleT Sa Bb Sc)))
    (HS : Hid (w.cell? ⟨Sa, 0, none⟩ = some (.int .i64 1) ∧ w.cell? ⟨Sa, 1, none⟩ = some (.int .i64 1000) ∧ w.cell? ⟨Sc, 0, none⟩ = some (.int .i64 1) ∧ w.cell? ⟨Sc, 1, none⟩ = some (.int .i64 80))) (HX : Hid (hi ≤ base ∧ hr ≤ base ∧ Sa < base ∧ Sc < base ∧ (∀ j, lr ≤ j → j < hr → j ≠ Bd ∧ j ≠ Nb ∧ j ≠ Tb) ∧ (∀ j, lo ≤ j → j < hi → j ≠ Bd ∧ j ≠ Nb ∧ j ≠ Tb) ∧ Sa ≠ Bd ∧ Sa ≠ Nb ∧ Sc ≠ Bd ∧ Sc ≠ Nb)) (hst : stepI x b = some b') (hnt : nt ≤ 99) (hnn : nn ≤ 99) (hlen : hI.len ≤ 2000) :
    Calls Tryz.prog 29 #[.pointer (some ⟨Bd, 0, none⟩), nhV hI, .map (some Mb)] w fun e w' => e = .returned (.tuple #[]) ∧ (∃ v1' v2' v4', BdM w' base Bd Nb Tb (nt + 1) (nn + 1) b' v1' v2' v4') ∧ Mod (fun j => j = Bd ∨ j = Nb ∨ j = Tb ∨ base ≤ j) w w' := by
  obtain ⟨z1, z2, z3, z4, z5, s, seen, z6, z7, z8⟩ := stepI_some hst
  have e2 : hI.name = x.name := hok.2.1
  have e3 : hI.n = x.n := hok.2.2.1
  obtain ⟨hsK, hgK⟩ := hok.2.2.2.2
  have HGK := Lib.hid hgK
  have HZ1 := Lib.hid z1
  have HZ3 := Lib.hid z3
  have HZ4 := Lib.hid z4
  have HZ5 := Lib.hid z5
  have HZ6 := Lib.hid z6
  have HZ7 := Lib.hid z7
  have HZ8 := Lib.hid z8
  have HE2 := Lib.hid e2
  have HE3 := Lib.hid e3
  have HNN : Hid (nt ≤ 99 ∧ nn ≤ 99 ∧ hI.len ≤ 2000) := Lib.hid ⟨hnt, hnn, hlen⟩
  obtain ⟨fd, hfd⟩ : ∃ fd, fd = b.fd := ⟨_, rfl⟩
  have HFD := Lib.hid hfd
  have HZ2 : Hid (x.n = 1 → fd = false) := Lib.hid (fun h => by cases fd; rfl; exact absurd ⟨h, hfd.symm⟩ z2)
  obtain ⟨xn, hxn⟩ : ∃ n, n = x.n := ⟨_, rfl⟩
  obtain ⟨nm, hnm⟩ : ∃ n, n = x.name := ⟨_, rfl⟩
  have HXN := Lib.hid hxn
  have HNM := Lib.hid hnm
  have h7 : (xn == 7) = false := by rw [beq_eq_false_iff_ne]; rw [hxn]; omega
  have hmf : ∀ (fn : Fn) (first cap : Array Value) (w : World), (Instr.makeFunc fn first cap).run Tryz.prog w = .ok (.func fn first cap) w := fun _ _ _ _ => rfl
  have hmkm : ∀ W : World, (Instr.makeMap 90 none).run Tryz.prog W = .ok (.map (some W.heap.size)) (W.alloc (.map #[] 0)) := fun W => run_makeMap 90 W
  clear z1 z2 z3 z4 z5 z6 z7 z8 hst e2 e3 hgK hnt hnn hlen hxn hnm hfd
  obtain ⟨X, hX⟩ : ∃ X, X = w.heap.size := ⟨_, rfl⟩
  obtain ⟨W0, hW0⟩ : ∃ W, W = (w.alloc (.cells #[.pointer (some ⟨Bd, 0, none⟩)] 89)).alloc (.cells #[.int .i64 hI.kind, .string hI.name, .int .i64 hI.n, .int .i64 (hI.pos : Nat), .slice hI.a hI.len hI.c] 49) := ⟨_, rfl⟩
  have hb0 : Below w.heap.size w W0 := by rw [hW0]; exact ((Below.refl _ _).alloc (Nat.le_refl _) _).alloc (by simp) _
  have HX0 : Hid (Own W0 X 89 1 (fun _ => .pointer (some ⟨Bd, 0, none⟩))) := Lib.hid (by rw [hW0, hX]; exact (Own.one _ _ _).alloc _)
  have HI0 : Hid (Own W0 (X + 1) 49 5 (nodeF hI.kind hI.name hI.n hI.pos (.slice hI.a hI.len hI.c))) := Lib.hid (by rw [hW0]; exact nodeF_new _ _ _ _ _ _ _ (by simp [hX]))
  have HB0 := Lib.hid (HB.out.keep hb0)
  have HBW0 := Lib.hid hb0
  have HW0 := Lib.hid hW0
  have HXX := Lib.hid hX
  clear hb0 hW0 hX
  rw [show nhV hI = .agg #[.int .i64 hI.kind, .string hI.name, .int .i64 hI.n, .int .i64 (hI.pos : Nat), .slice hI.a hI.len hI.c] from rfl]
  go_enter_defers Tryz.func29, Tryz.ntmps29
  go_upto_region 2 with (fail)
  rw [← HW0.out, ← HXX.out]
  clear HW0
  have x0 : W0.cell? ⟨X, 0, none⟩ = some (.pointer (some ⟨Bd, 0, none⟩)) := HX0.out.cell (i := 0) (by omega)
  have hXl : X < W0.heap.size := HX0.out.lt
  have i1 : W0.cell? ⟨X + 1, 1, none⟩ = some (.string nm) := by have h := HI0.out.cell (i := 1) (by omega); rw [HNM.out, ← HE2.out]; exact h
  have i2 : W0.cell? ⟨X + 1, 2, none⟩ = some (.int .i64 xn) := by have h := HI0.out.cell (i := 2) (by omega); rw [HXN.out, ← HE3.out]; exact h
  have hIl : X + 1 < W0.heap.size := HI0.out.lt
  have b5 : W0.cell? ⟨Bd, 5, none⟩ = some (.map (some Nb)) := HB0.out.ow.cell (i := 5) (by omega)
  have b6 : W0.cell? ⟨Bd, 6, none⟩ = some (.bool fd) := by have h := HB0.out.ow.cell (i := 6) (by omega); rw [HFD.out]; exact h
  have hBl : Bd < W0.heap.size := HB0.out.ow.lt
  have HLN : Hid (∀ W, Below W0.heap.size W0 W → (Instr.lookup 90 (.map (some Nb)) (.string nm) false).run Tryz.prog W = .ok (.bool false) W) := Lib.hid (fun W hbW => by
    have h := (HB0.out.nm.keep hbW).look strK Tryz.underlying90 Tryz.underlying4 (by go_simp) (key := .string nm) (kl := strL nm) (WideMaps.keyOf_string_mk Tryz.underlying9 (by rw [HNM.out]; have := HZ5.out; unfold maxLen; omega)) (by trivial)
    rw [show inS (b.names.map Lit.string) (strL nm) = false from by rw [Bool.eq_false_iff]; intro h2; have h3 := inS_str.1 h2; rw [HNM.out] at h3; exact HZ1.out h3] at h
    exact h)
  go_cut [6] from 11 to 28 (fun v6 wx => v6 = .bool false ∧ Hid (Below W0.heap.size W0 wx))
  case first =>
    by_cases h1 : xn = 1
    · have h1b : (xn == 1) = true := by simpa using h1
      have hff : fd = false := HZ2.out (by rw [← HXN.out]; exact h1)
      rw [hff] at b6
      clear hff
      refine wp_normal (fun K hK => ?_)
      have HKN := Lib.hid hK
      clear hK
      refine region_z (S := fun w' => Below W0.heap.size W0 w') [] (by kernel_rfl) (below_drewN' W0) (fun hHeld => ?_)
      obtain ⟨wd, hwd⟩ : ∃ wd, wd = W0.drew := ⟨_, rfl⟩
      rw [← hwd] at hHeld ⊢
      clear hwd
      refine wpAnyZ_take (i := 0) (v := .pointer (some ⟨Bd, 0, none⟩)) [] rfl (by kernel_rfl) (by kernel_rfl) (by kernel_rfl) (by kernel_rfl) (fun _ _ _ h => h) (Or.inl ⟨by kernel_rfl, fun w' hSw => ?_⟩) hHeld ?_
      · have s0 := (hSw.cell (p := ⟨X, 0, none⟩) hXl).trans x0
        have s1 : X < w'.heap.size := Nat.lt_of_lt_of_le hXl hSw.size
        have s2 := (hSw.cell (p := ⟨X + 1, 1, none⟩) hIl).trans i1
        have s3 := (hSw.cell (p := ⟨X + 1, 2, none⟩) hIl).trans i2
        have s4 : X + 1 < w'.heap.size := Nat.lt_of_lt_of_le hIl hSw.size
        have s5 := (hSw.cell (p := ⟨Bd, 5, none⟩) hBl).trans b5
        have s6 := (hSw.cell (p := ⟨Bd, 6, none⟩) hBl).trans b6
        have s7 : Bd < w'.heap.size := Nat.lt_of_lt_of_le hBl hSw.size
        have s8 : (Instr.lookup 90 (.map (some Nb)) (.string nm) false).run Tryz.prog w' = .ok (.bool false) w' := HLN.out w' hSw
        clear hHeld hSw
        go_simp
      simp only [Act.put, List.getElem_toArray, List.getElem_cons_zero, List.getElem_cons_succ, List.setIfInBounds_toArray, List.set_cons_zero, List.set_cons_succ]
      refine wpAnyZ_take (i := 1) (v := .pointer (some ⟨Bd, 0, none⟩)) [] rfl (by kernel_rfl) (by kernel_rfl) (by kernel_rfl) (by kernel_rfl) (fun _ _ _ h => h) (Or.inl ⟨by kernel_rfl, fun w' hSw => ?_⟩) hHeld ?_
      · have s0 := (hSw.cell (p := ⟨X, 0, none⟩) hXl).trans x0
        have s1 : X < w'.heap.size := Nat.lt_of_lt_of_le hXl hSw.size
        have s2 := (hSw.cell (p := ⟨X + 1, 1, none⟩) hIl).trans i1
        have s3 := (hSw.cell (p := ⟨X + 1, 2, none⟩) hIl).trans i2
        have s4 : X + 1 < w'.heap.size := Nat.lt_of_lt_of_le hIl hSw.size
        have s5 := (hSw.cell (p := ⟨Bd, 5, none⟩) hBl).trans b5
        have s6 := (hSw.cell (p := ⟨Bd, 6, none⟩) hBl).trans b6
        have s7 : Bd < w'.heap.size := Nat.lt_of_lt_of_le hBl hSw.size
        have s8 : (Instr.lookup 90 (.map (some Nb)) (.string nm) false).run Tryz.prog w' = .ok (.bool false) w' := HLN.out w' hSw
        clear hHeld hSw
        go_simp
      simp only [Act.put, List.getElem_toArray, List.getElem_cons_zero, List.getElem_cons_succ, List.setIfInBounds_toArray, List.set_cons_zero, List.set_cons_succ]
      refine wpAnyZ_take (i := 2) (v := .pointer (some ⟨Bd, 5, none⟩)) [] rfl (by kernel_rfl) (by kernel_rfl) (by kernel_rfl) (by kernel_rfl) (fun _ _ _ h => h) (Or.inl ⟨by kernel_rfl, fun w' hSw => ?_⟩) hHeld ?_
      · have s0 := (hSw.cell (p := ⟨X, 0, none⟩) hXl).trans x0
        have s1 : X < w'.heap.size := Nat.lt_of_lt_of_le hXl hSw.size
        have s2 := (hSw.cell (p := ⟨X + 1, 1, none⟩) hIl).trans i1
        have s3 := (hSw.cell (p := ⟨X + 1, 2, none⟩) hIl).trans i2
        have s4 : X + 1 < w'.heap.size := Nat.lt_of_lt_of_le hIl hSw.size
        have s5 := (hSw.cell (p := ⟨Bd, 5, none⟩) hBl).trans b5
        have s6 := (hSw.cell (p := ⟨Bd, 6, none⟩) hBl).trans b6
        have s7 : Bd < w'.heap.size := Nat.lt_of_lt_of_le hBl hSw.size
        have s8 : (Instr.lookup 90 (.map (some Nb)) (.string nm) false).run Tryz.prog w' = .ok (.bool false) w' := HLN.out w' hSw
        clear hHeld hSw
        go_simp
      simp only [Act.put, List.getElem_toArray, List.getElem_cons_zero, List.getElem_cons_succ, List.setIfInBounds_toArray, List.set_cons_zero, List.set_cons_succ]
      refine wpAnyZ_take (i := 3) (v := .map (some Nb)) [] rfl (by kernel_rfl) (by kernel_rfl) (by kernel_rfl) (by kernel_rfl) (fun _ _ _ h => h) (Or.inl ⟨by kernel_rfl, fun w' hSw => ?_⟩) hHeld ?_
      · have s0 := (hSw.cell (p := ⟨X, 0, none⟩) hXl).trans x0
        have s1 : X < w'.heap.size := Nat.lt_of_lt_of_le hXl hSw.size
        have s2 := (hSw.cell (p := ⟨X + 1, 1, none⟩) hIl).trans i1
        have s3 := (hSw.cell (p := ⟨X + 1, 2, none⟩) hIl).trans i2
        have s4 : X + 1 < w'.heap.size := Nat.lt_of_lt_of_le hIl hSw.size
        have s5 := (hSw.cell (p := ⟨Bd, 5, none⟩) hBl).trans b5
        have s6 := (hSw.cell (p := ⟨Bd, 6, none⟩) hBl).trans b6
        have s7 : Bd < w'.heap.size := Nat.lt_of_lt_of_le hBl hSw.size
        have s8 : (Instr.lookup 90 (.map (some Nb)) (.string nm) false).run Tryz.prog w' = .ok (.bool false) w' := HLN.out w' hSw
        clear hHeld hSw
        go_simp
      simp only [Act.put, List.getElem_toArray, List.getElem_cons_zero, List.getElem_cons_succ, List.setIfInBounds_toArray, List.set_cons_zero, List.set_cons_succ]
      refine wpAnyZ_take (i := 4) (v := .pointer (some ⟨X + 1, 1, none⟩)) [] rfl (by kernel_rfl) (by kernel_rfl) (by kernel_rfl) (by kernel_rfl) (fun _ _ _ h => h) (Or.inl ⟨by kernel_rfl, fun w' hSw => ?_⟩) hHeld ?_
      · have s0 := (hSw.cell (p := ⟨X, 0, none⟩) hXl).trans x0
        have s1 : X < w'.heap.size := Nat.lt_of_lt_of_le hXl hSw.size
        have s2 := (hSw.cell (p := ⟨X + 1, 1, none⟩) hIl).trans i1
        have s3 := (hSw.cell (p := ⟨X + 1, 2, none⟩) hIl).trans i2
        have s4 : X + 1 < w'.heap.size := Nat.lt_of_lt_of_le hIl hSw.size
        have s5 := (hSw.cell (p := ⟨Bd, 5, none⟩) hBl).trans b5
        have s6 := (hSw.cell (p := ⟨Bd, 6, none⟩) hBl).trans b6
        have s7 : Bd < w'.heap.size := Nat.lt_of_lt_of_le hBl hSw.size
        have s8 : (Instr.lookup 90 (.map (some Nb)) (.string nm) false).run Tryz.prog w' = .ok (.bool false) w' := HLN.out w' hSw
        clear hHeld hSw
        go_simp
      simp only [Act.put, List.getElem_toArray, List.getElem_cons_zero, List.getElem_cons_succ, List.setIfInBounds_toArray, List.set_cons_zero, List.set_cons_succ]
      refine wpAnyZ_take (i := 5) (v := .string nm) [] rfl (by kernel_rfl) (by kernel_rfl) (by kernel_rfl) (by kernel_rfl) (fun _ _ _ h => h) (Or.inl ⟨by kernel_rfl, fun w' hSw => ?_⟩) hHeld ?_
      · have s0 := (hSw.cell (p := ⟨X, 0, none⟩) hXl).trans x0
        have s1 : X < w'.heap.size := Nat.lt_of_lt_of_le hXl hSw.size
        have s2 := (hSw.cell (p := ⟨X + 1, 1, none⟩) hIl).trans i1
        have s3 := (hSw.cell (p := ⟨X + 1, 2, none⟩) hIl).trans i2
        have s4 : X + 1 < w'.heap.size := Nat.lt_of_lt_of_le hIl hSw.size
        have s5 := (hSw.cell (p := ⟨Bd, 5, none⟩) hBl).trans b5
        have s6 := (hSw.cell (p := ⟨Bd, 6, none⟩) hBl).trans b6
        have s7 : Bd < w'.heap.size := Nat.lt_of_lt_of_le hBl hSw.size
        have s8 : (Instr.lookup 90 (.map (some Nb)) (.string nm) false).run Tryz.prog w' = .ok (.bool false) w' := HLN.out w' hSw
        clear hHeld hSw
        go_simp
      simp only [Act.put, List.getElem_toArray, List.getElem_cons_zero, List.getElem_cons_succ, List.setIfInBounds_toArray, List.set_cons_zero, List.set_cons_succ]
      refine wpAnyZ_take (i := 6) (v := .bool false) [] rfl (by kernel_rfl) (by kernel_rfl) (by kernel_rfl) (by kernel_rfl) (fun _ _ _ h => h) (Or.inl ⟨by kernel_rfl, fun w' hSw => ?_⟩) hHeld ?_
      · have s0 := (hSw.cell (p := ⟨X, 0, none⟩) hXl).trans x0
        have s1 : X < w'.heap.size := Nat.lt_of_lt_of_le hXl hSw.size
        have s2 := (hSw.cell (p := ⟨X + 1, 1, none⟩) hIl).trans i1
        have s3 := (hSw.cell (p := ⟨X + 1, 2, none⟩) hIl).trans i2
        have s4 : X + 1 < w'.heap.size := Nat.lt_of_lt_of_le hIl hSw.size
        have s5 := (hSw.cell (p := ⟨Bd, 5, none⟩) hBl).trans b5
        have s6 := (hSw.cell (p := ⟨Bd, 6, none⟩) hBl).trans b6
        have s7 : Bd < w'.heap.size := Nat.lt_of_lt_of_le hBl hSw.size
        have s8 : (Instr.lookup 90 (.map (some Nb)) (.string nm) false).run Tryz.prog w' = .ok (.bool false) w' := HLN.out w' hSw
        clear hHeld hSw
        go_simp
      simp only [Act.put, List.getElem_toArray, List.getElem_cons_zero, List.getElem_cons_succ, List.setIfInBounds_toArray, List.set_cons_zero, List.set_cons_succ]
      refine wpAnyZ_take (i := 7) (v := .bool false) [] rfl (by kernel_rfl) (by kernel_rfl) (by kernel_rfl) (by kernel_rfl) (fun _ _ _ h => h) (Or.inl ⟨by kernel_rfl, fun w' hSw => ?_⟩) hHeld ?_
      · have s0 := (hSw.cell (p := ⟨X, 0, none⟩) hXl).trans x0
        have s1 : X < w'.heap.size := Nat.lt_of_lt_of_le hXl hSw.size
        have s2 := (hSw.cell (p := ⟨X + 1, 1, none⟩) hIl).trans i1
        have s3 := (hSw.cell (p := ⟨X + 1, 2, none⟩) hIl).trans i2
        have s4 : X + 1 < w'.heap.size := Nat.lt_of_lt_of_le hIl hSw.size
        have s5 := (hSw.cell (p := ⟨Bd, 5, none⟩) hBl).trans b5
        have s6 := (hSw.cell (p := ⟨Bd, 6, none⟩) hBl).trans b6
        have s7 : Bd < w'.heap.size := Nat.lt_of_lt_of_le hBl hSw.size
        have s8 : (Instr.lookup 90 (.map (some Nb)) (.string nm) false).run Tryz.prog w' = .ok (.bool false) w' := HLN.out w' hSw
        clear hHeld hSw
        go_simp
      simp only [Act.put, List.getElem_toArray, List.getElem_cons_zero, List.getElem_cons_succ, List.setIfInBounds_toArray, List.set_cons_zero, List.set_cons_succ]
      refine wpAnyZ_take (i := 8) (v := .pointer (some ⟨X + 1, 2, none⟩)) [] rfl (by kernel_rfl) (by kernel_rfl) (by kernel_rfl) (by kernel_rfl) (fun _ _ _ h => h) (Or.inl ⟨by kernel_rfl, fun w' hSw => ?_⟩) hHeld ?_
      · have s0 := (hSw.cell (p := ⟨X, 0, none⟩) hXl).trans x0
        have s1 : X < w'.heap.size := Nat.lt_of_lt_of_le hXl hSw.size
        have s2 := (hSw.cell (p := ⟨X + 1, 1, none⟩) hIl).trans i1
        have s3 := (hSw.cell (p := ⟨X + 1, 2, none⟩) hIl).trans i2
        have s4 : X + 1 < w'.heap.size := Nat.lt_of_lt_of_le hIl hSw.size
        have s5 := (hSw.cell (p := ⟨Bd, 5, none⟩) hBl).trans b5
        have s6 := (hSw.cell (p := ⟨Bd, 6, none⟩) hBl).trans b6
        have s7 : Bd < w'.heap.size := Nat.lt_of_lt_of_le hBl hSw.size
        have s8 : (Instr.lookup 90 (.map (some Nb)) (.string nm) false).run Tryz.prog w' = .ok (.bool false) w' := HLN.out w' hSw
        clear hHeld hSw
        go_simp
      simp only [Act.put, List.getElem_toArray, List.getElem_cons_zero, List.getElem_cons_succ, List.setIfInBounds_toArray, List.set_cons_zero, List.set_cons_succ]
      refine wpAnyZ_take (i := 9) (v := .int .i64 xn) [] rfl (by kernel_rfl) (by kernel_rfl) (by kernel_rfl) (by kernel_rfl) (fun _ _ _ h => h) (Or.inl ⟨by kernel_rfl, fun w' hSw => ?_⟩) hHeld ?_
      · have s0 := (hSw.cell (p := ⟨X, 0, none⟩) hXl).trans x0
        have s1 : X < w'.heap.size := Nat.lt_of_lt_of_le hXl hSw.size
        have s2 := (hSw.cell (p := ⟨X + 1, 1, none⟩) hIl).trans i1
        have s3 := (hSw.cell (p := ⟨X + 1, 2, none⟩) hIl).trans i2
        have s4 : X + 1 < w'.heap.size := Nat.lt_of_lt_of_le hIl hSw.size
        have s5 := (hSw.cell (p := ⟨Bd, 5, none⟩) hBl).trans b5
        have s6 := (hSw.cell (p := ⟨Bd, 6, none⟩) hBl).trans b6
        have s7 : Bd < w'.heap.size := Nat.lt_of_lt_of_le hBl hSw.size
        have s8 : (Instr.lookup 90 (.map (some Nb)) (.string nm) false).run Tryz.prog w' = .ok (.bool false) w' := HLN.out w' hSw
        clear hHeld hSw
        go_simp
      simp only [Act.put, List.getElem_toArray, List.getElem_cons_zero, List.getElem_cons_succ, List.setIfInBounds_toArray, List.set_cons_zero, List.set_cons_succ]
      refine wpAnyZ_take (i := 10) (v := .bool true) [] rfl (by kernel_rfl) (by kernel_rfl) (by kernel_rfl) (by kernel_rfl) (fun _ _ _ h => h) (Or.inl ⟨by kernel_rfl, fun w' hSw => ?_⟩) hHeld ?_
      · have s0 := (hSw.cell (p := ⟨X, 0, none⟩) hXl).trans x0
        have s1 : X < w'.heap.size := Nat.lt_of_lt_of_le hXl hSw.size
        have s2 := (hSw.cell (p := ⟨X + 1, 1, none⟩) hIl).trans i1
        have s3 := (hSw.cell (p := ⟨X + 1, 2, none⟩) hIl).trans i2
        have s4 : X + 1 < w'.heap.size := Nat.lt_of_lt_of_le hIl hSw.size
        have s5 := (hSw.cell (p := ⟨Bd, 5, none⟩) hBl).trans b5
        have s6 := (hSw.cell (p := ⟨Bd, 6, none⟩) hBl).trans b6
        have s7 : Bd < w'.heap.size := Nat.lt_of_lt_of_le hBl hSw.size
        have s8 : (Instr.lookup 90 (.map (some Nb)) (.string nm) false).run Tryz.prog w' = .ok (.bool false) w' := HLN.out w' hSw
        clear hHeld hSw
        go_simp
      simp only [Act.put, List.getElem_toArray, List.getElem_cons_zero, List.getElem_cons_succ, List.setIfInBounds_toArray, List.set_cons_zero, List.set_cons_succ]
      refine wpAnyZ_take (i := 11) (v := .bool true) [] rfl (by kernel_rfl) (by kernel_rfl) (by kernel_rfl) (by kernel_rfl) (fun _ _ _ h => h) (Or.inl ⟨by kernel_rfl, fun w' hSw => ?_⟩) hHeld ?_
      · have s0 := (hSw.cell (p := ⟨X, 0, none⟩) hXl).trans x0
        have s1 : X < w'.heap.size := Nat.lt_of_lt_of_le hXl hSw.size
        have s2 := (hSw.cell (p := ⟨X + 1, 1, none⟩) hIl).trans i1
        have s3 := (hSw.cell (p := ⟨X + 1, 2, none⟩) hIl).trans i2
        have s4 : X + 1 < w'.heap.size := Nat.lt_of_lt_of_le hIl hSw.size
        have s5 := (hSw.cell (p := ⟨Bd, 5, none⟩) hBl).trans b5
        have s6 := (hSw.cell (p := ⟨Bd, 6, none⟩) hBl).trans b6
        have s7 : Bd < w'.heap.size := Nat.lt_of_lt_of_le hBl hSw.size
        have s8 : (Instr.lookup 90 (.map (some Nb)) (.string nm) false).run Tryz.prog w' = .ok (.bool false) w' := HLN.out w' hSw
        clear hHeld hSw
        go_simp
      simp only [Act.put, List.getElem_toArray, List.getElem_cons_zero, List.getElem_cons_succ, List.setIfInBounds_toArray, List.set_cons_zero, List.set_cons_succ]
      refine wpAnyZ_take (i := 12) (v := .pointer (some ⟨Bd, 0, none⟩)) [] rfl (by kernel_rfl) (by kernel_rfl) (by kernel_rfl) (by kernel_rfl) (fun _ _ _ h => h) (Or.inl ⟨by kernel_rfl, fun w' hSw => ?_⟩) hHeld ?_
      · have s0 := (hSw.cell (p := ⟨X, 0, none⟩) hXl).trans x0
        have s1 : X < w'.heap.size := Nat.lt_of_lt_of_le hXl hSw.size
        have s2 := (hSw.cell (p := ⟨X + 1, 1, none⟩) hIl).trans i1
        have s3 := (hSw.cell (p := ⟨X + 1, 2, none⟩) hIl).trans i2
        have s4 : X + 1 < w'.heap.size := Nat.lt_of_lt_of_le hIl hSw.size
        have s5 := (hSw.cell (p := ⟨Bd, 5, none⟩) hBl).trans b5
        have s6 := (hSw.cell (p := ⟨Bd, 6, none⟩) hBl).trans b6
        have s7 : Bd < w'.heap.size := Nat.lt_of_lt_of_le hBl hSw.size
        have s8 : (Instr.lookup 90 (.map (some Nb)) (.string nm) false).run Tryz.prog w' = .ok (.bool false) w' := HLN.out w' hSw
        clear hHeld hSw
        go_simp
      simp only [Act.put, List.getElem_toArray, List.getElem_cons_zero, List.getElem_cons_succ, List.setIfInBounds_toArray, List.set_cons_zero, List.set_cons_succ]
      refine wpAnyZ_take (i := 13) (v := .pointer (some ⟨Bd, 0, none⟩)) [] rfl (by kernel_rfl) (by kernel_rfl) (by kernel_rfl) (by kernel_rfl) (fun _ _ _ h => h) (Or.inl ⟨by kernel_rfl, fun w' hSw => ?_⟩) hHeld ?_
      · have s0 := (hSw.cell (p := ⟨X, 0, none⟩) hXl).trans x0
        have s1 : X < w'.heap.size := Nat.lt_of_lt_of_le hXl hSw.size
        have s2 := (hSw.cell (p := ⟨X + 1, 1, none⟩) hIl).trans i1
        have s3 := (hSw.cell (p := ⟨X + 1, 2, none⟩) hIl).trans i2
        have s4 : X + 1 < w'.heap.size := Nat.lt_of_lt_of_le hIl hSw.size
        have s5 := (hSw.cell (p := ⟨Bd, 5, none⟩) hBl).trans b5
        have s6 := (hSw.cell (p := ⟨Bd, 6, none⟩) hBl).trans b6
        have s7 : Bd < w'.heap.size := Nat.lt_of_lt_of_le hBl hSw.size
        have s8 : (Instr.lookup 90 (.map (some Nb)) (.string nm) false).run Tryz.prog w' = .ok (.bool false) w' := HLN.out w' hSw
        clear hHeld hSw
        go_simp
      simp only [Act.put, List.getElem_toArray, List.getElem_cons_zero, List.getElem_cons_succ, List.setIfInBounds_toArray, List.set_cons_zero, List.set_cons_succ]
      refine wpAnyZ_take (i := 14) (v := .pointer (some ⟨Bd, 6, none⟩)) [] rfl (by kernel_rfl) (by kernel_rfl) (by kernel_rfl) (by kernel_rfl) (fun _ _ _ h => h) (Or.inl ⟨by kernel_rfl, fun w' hSw => ?_⟩) hHeld ?_
      · have s0 := (hSw.cell (p := ⟨X, 0, none⟩) hXl).trans x0
        have s1 : X < w'.heap.size := Nat.lt_of_lt_of_le hXl hSw.size
        have s2 := (hSw.cell (p := ⟨X + 1, 1, none⟩) hIl).trans i1
        have s3 := (hSw.cell (p := ⟨X + 1, 2, none⟩) hIl).trans i2
        have s4 : X + 1 < w'.heap.size := Nat.lt_of_lt_of_le hIl hSw.size
        have s5 := (hSw.cell (p := ⟨Bd, 5, none⟩) hBl).trans b5
        have s6 := (hSw.cell (p := ⟨Bd, 6, none⟩) hBl).trans b6
        have s7 : Bd < w'.heap.size := Nat.lt_of_lt_of_le hBl hSw.size
        have s8 : (Instr.lookup 90 (.map (some Nb)) (.string nm) false).run Tryz.prog w' = .ok (.bool false) w' := HLN.out w' hSw
        clear hHeld hSw
        go_simp
      simp only [Act.put, List.getElem_toArray, List.getElem_cons_zero, List.getElem_cons_succ, List.setIfInBounds_toArray, List.set_cons_zero, List.set_cons_succ]
      refine wpAnyZ_take (i := 15) (v := .bool false) [] rfl (by kernel_rfl) (by kernel_rfl) (by kernel_rfl) (by kernel_rfl) (fun _ _ _ h => h) (Or.inl ⟨by kernel_rfl, fun w' hSw => ?_⟩) hHeld ?_
      · have s0 := (hSw.cell (p := ⟨X, 0, none⟩) hXl).trans x0
        have s1 : X < w'.heap.size := Nat.lt_of_lt_of_le hXl hSw.size
        have s2 := (hSw.cell (p := ⟨X + 1, 1, none⟩) hIl).trans i1
        have s3 := (hSw.cell (p := ⟨X + 1, 2, none⟩) hIl).trans i2
        have s4 : X + 1 < w'.heap.size := Nat.lt_of_lt_of_le hIl hSw.size
        have s5 := (hSw.cell (p := ⟨Bd, 5, none⟩) hBl).trans b5
        have s6 := (hSw.cell (p := ⟨Bd, 6, none⟩) hBl).trans b6
        have s7 : Bd < w'.heap.size := Nat.lt_of_lt_of_le hBl hSw.size
        have s8 : (Instr.lookup 90 (.map (some Nb)) (.string nm) false).run Tryz.prog w' = .ok (.bool false) w' := HLN.out w' hSw
        clear hHeld hSw
        go_simp
      simp only [Act.put, List.getElem_toArray, List.getElem_cons_zero, List.getElem_cons_succ, List.setIfInBounds_toArray, List.set_cons_zero, List.set_cons_succ]
      refine wpAnyZ_take (i := 16) (v := .bool false) [] rfl (by kernel_rfl) (by kernel_rfl) (by kernel_rfl) (by kernel_rfl) (fun _ _ _ h => h) (Or.inl ⟨by kernel_rfl, fun w' hSw => ?_⟩) hHeld ?_
      · have s0 := (hSw.cell (p := ⟨X, 0, none⟩) hXl).trans x0
        have s1 : X < w'.heap.size := Nat.lt_of_lt_of_le hXl hSw.size
        have s2 := (hSw.cell (p := ⟨X + 1, 1, none⟩) hIl).trans i1
        have s3 := (hSw.cell (p := ⟨X + 1, 2, none⟩) hIl).trans i2
        have s4 : X + 1 < w'.heap.size := Nat.lt_of_lt_of_le hIl hSw.size
        have s5 := (hSw.cell (p := ⟨Bd, 5, none⟩) hBl).trans b5
        have s6 := (hSw.cell (p := ⟨Bd, 6, none⟩) hBl).trans b6
        have s7 : Bd < w'.heap.size := Nat.lt_of_lt_of_le hBl hSw.size
        have s8 : (Instr.lookup 90 (.map (some Nb)) (.string nm) false).run Tryz.prog w' = .ok (.bool false) w' := HLN.out w' hSw
        clear hHeld hSw
        go_simp
      simp only [Act.put, List.getElem_toArray, List.getElem_cons_zero, List.getElem_cons_succ, List.setIfInBounds_toArray, List.set_cons_zero, List.set_cons_succ]
      refine wpAnyZ_take (i := 17) (v := .bool false) [] rfl (by kernel_rfl) (by kernel_rfl) (by kernel_rfl) (by kernel_rfl) (fun _ _ _ h => h) (Or.inl ⟨by kernel_rfl, fun w' hSw => ?_⟩) hHeld ?_
      · have s0 := (hSw.cell (p := ⟨X, 0, none⟩) hXl).trans x0
        have s1 : X < w'.heap.size := Nat.lt_of_lt_of_le hXl hSw.size
        have s2 := (hSw.cell (p := ⟨X + 1, 1, none⟩) hIl).trans i1
        have s3 := (hSw.cell (p := ⟨X + 1, 2, none⟩) hIl).trans i2
        have s4 : X + 1 < w'.heap.size := Nat.lt_of_lt_of_le hIl hSw.size
        have s5 := (hSw.cell (p := ⟨Bd, 5, none⟩) hBl).trans b5
        have s6 := (hSw.cell (p := ⟨Bd, 6, none⟩) hBl).trans b6
        have s7 : Bd < w'.heap.size := Nat.lt_of_lt_of_le hBl hSw.size
        have s8 : (Instr.lookup 90 (.map (some Nb)) (.string nm) false).run Tryz.prog w' = .ok (.bool false) w' := HLN.out w' hSw
        clear hHeld hSw
        go_simp
      simp only [Act.put, List.getElem_toArray, List.getElem_cons_zero, List.getElem_cons_succ, List.setIfInBounds_toArray, List.set_cons_zero, List.set_cons_succ]
      refine wpAnyZ_take (i := 18) (v := .bool false) [] rfl (by kernel_rfl) (by kernel_rfl) (by kernel_rfl) (by kernel_rfl) (fun _ _ _ h => h) (Or.inl ⟨by kernel_rfl, fun w' hSw => ?_⟩) hHeld ?_
      · have s0 := (hSw.cell (p := ⟨X, 0, none⟩) hXl).trans x0
        have s1 : X < w'.heap.size := Nat.lt_of_lt_of_le hXl hSw.size
        have s2 := (hSw.cell (p := ⟨X + 1, 1, none⟩) hIl).trans i1
        have s3 := (hSw.cell (p := ⟨X + 1, 2, none⟩) hIl).trans i2
        have s4 : X + 1 < w'.heap.size := Nat.lt_of_lt_of_le hIl hSw.size
        have s5 := (hSw.cell (p := ⟨Bd, 5, none⟩) hBl).trans b5
        have s6 := (hSw.cell (p := ⟨Bd, 6, none⟩) hBl).trans b6
        have s7 : Bd < w'.heap.size := Nat.lt_of_lt_of_le hBl hSw.size
        have s8 : (Instr.lookup 90 (.map (some Nb)) (.string nm) false).run Tryz.prog w' = .ok (.bool false) w' := HLN.out w' hSw
        clear hHeld hSw
        go_simp
      simp only [Act.put, List.getElem_toArray, List.getElem_cons_zero, List.getElem_cons_succ, List.setIfInBounds_toArray, List.set_cons_zero, List.set_cons_succ]
      refine wpAnyZ_done (by kernel_rfl) ?_ _
      go_step
      refine HKN.out _ _ ?_
      go_step
      go_step
      go_meet
      exact ⟨rfl, Lib.hid hHeld⟩
    · have h1b : (xn == 1) = false := by simpa using h1
      refine wp_normal (fun K hK => ?_)
      have HKN := Lib.hid hK
      clear hK
      refine region_z (S := fun w' => Below W0.heap.size W0 w') [] (by kernel_rfl) (below_drewN' W0) (fun hHeld => ?_)
      obtain ⟨wd, hwd⟩ : ∃ wd, wd = W0.drew := ⟨_, rfl⟩
      rw [← hwd] at hHeld ⊢
      clear hwd
      refine wpAnyZ_take (i := 0) (v := .pointer (some ⟨Bd, 0, none⟩)) [] rfl (by kernel_rfl) (by kernel_rfl) (by kernel_rfl) (by kernel_rfl) (fun _ _ _ h => h) (Or.inl ⟨by kernel_rfl, fun w' hSw => ?_⟩) hHeld ?_
      · have s0 := (hSw.cell (p := ⟨X, 0, none⟩) hXl).trans x0
        have s1 : X < w'.heap.size := Nat.lt_of_lt_of_le hXl hSw.size
        have s2 := (hSw.cell (p := ⟨X + 1, 1, none⟩) hIl).trans i1
        have s3 := (hSw.cell (p := ⟨X + 1, 2, none⟩) hIl).trans i2
        have s4 : X + 1 < w'.heap.size := Nat.lt_of_lt_of_le hIl hSw.size
        have s5 := (hSw.cell (p := ⟨Bd, 5, none⟩) hBl).trans b5
        have s6 := (hSw.cell (p := ⟨Bd, 6, none⟩) hBl).trans b6
        have s7 : Bd < w'.heap.size := Nat.lt_of_lt_of_le hBl hSw.size
        have s8 : (Instr.lookup 90 (.map (some Nb)) (.string nm) false).run Tryz.prog w' = .ok (.bool false) w' := HLN.out w' hSw
        clear hHeld hSw
        go_simp
      simp only [Act.put, List.getElem_toArray, List.getElem_cons_zero, List.getElem_cons_succ, List.setIfInBounds_toArray, List.set_cons_zero, List.set_cons_succ]
      refine wpAnyZ_take (i := 1) (v := .pointer (some ⟨Bd, 0, none⟩)) [] rfl (by kernel_rfl) (by kernel_rfl) (by kernel_rfl) (by kernel_rfl) (fun _ _ _ h => h) (Or.inl ⟨by kernel_rfl, fun w' hSw => ?_⟩) hHeld ?_
      · have s0 := (hSw.cell (p := ⟨X, 0, none⟩) hXl).trans x0
        have s1 : X < w'.heap.size := Nat.lt_of_lt_of_le hXl hSw.size
        have s2 := (hSw.cell (p := ⟨X + 1, 1, none⟩) hIl).trans i1
        have s3 := (hSw.cell (p := ⟨X + 1, 2, none⟩) hIl).trans i2
        have s4 : X + 1 < w'.heap.size := Nat.lt_of_lt_of_le hIl hSw.size
        have s5 := (hSw.cell (p := ⟨Bd, 5, none⟩) hBl).trans b5
        have s6 := (hSw.cell (p := ⟨Bd, 6, none⟩) hBl).trans b6
        have s7 : Bd < w'.heap.size := Nat.lt_of_lt_of_le hBl hSw.size
        have s8 : (Instr.lookup 90 (.map (some Nb)) (.string nm) false).run Tryz.prog w' = .ok (.bool false) w' := HLN.out w' hSw
        clear hHeld hSw
        go_simp
      simp only [Act.put, List.getElem_toArray, List.getElem_cons_zero, List.getElem_cons_succ, List.setIfInBounds_toArray, List.set_cons_zero, List.set_cons_succ]
      refine wpAnyZ_take (i := 2) (v := .pointer (some ⟨Bd, 5, none⟩)) [] rfl (by kernel_rfl) (by kernel_rfl) (by kernel_rfl) (by kernel_rfl) (fun _ _ _ h => h) (Or.inl ⟨by kernel_rfl, fun w' hSw => ?_⟩) hHeld ?_
      · have s0 := (hSw.cell (p := ⟨X, 0, none⟩) hXl).trans x0
        have s1 : X < w'.heap.size := Nat.lt_of_lt_of_le hXl hSw.size
        have s2 := (hSw.cell (p := ⟨X + 1, 1, none⟩) hIl).trans i1
        have s3 := (hSw.cell (p := ⟨X + 1, 2, none⟩) hIl).trans i2
        have s4 : X + 1 < w'.heap.size := Nat.lt_of_lt_of_le hIl hSw.size
        have s5 := (hSw.cell (p := ⟨Bd, 5, none⟩) hBl).trans b5
        have s6 := (hSw.cell (p := ⟨Bd, 6, none⟩) hBl).trans b6
        have s7 : Bd < w'.heap.size := Nat.lt_of_lt_of_le hBl hSw.size
        have s8 : (Instr.lookup 90 (.map (some Nb)) (.string nm) false).run Tryz.prog w' = .ok (.bool false) w' := HLN.out w' hSw
        clear hHeld hSw
        go_simp
      simp only [Act.put, List.getElem_toArray, List.getElem_cons_zero, List.getElem_cons_succ, List.setIfInBounds_toArray, List.set_cons_zero, List.set_cons_succ]
      refine wpAnyZ_take (i := 3) (v := .map (some Nb)) [] rfl (by kernel_rfl) (by kernel_rfl) (by kernel_rfl) (by kernel_rfl) (fun _ _ _ h => h) (Or.inl ⟨by kernel_rfl, fun w' hSw => ?_⟩) hHeld ?_
      · have s0 := (hSw.cell (p := ⟨X, 0, none⟩) hXl).trans x0
        have s1 : X < w'.heap.size := Nat.lt_of_lt_of_le hXl hSw.size
        have s2 := (hSw.cell (p := ⟨X + 1, 1, none⟩) hIl).trans i1
        have s3 := (hSw.cell (p := ⟨X + 1, 2, none⟩) hIl).trans i2
        have s4 : X + 1 < w'.heap.size := Nat.lt_of_lt_of_le hIl hSw.size
        have s5 := (hSw.cell (p := ⟨Bd, 5, none⟩) hBl).trans b5
        have s6 := (hSw.cell (p := ⟨Bd, 6, none⟩) hBl).trans b6
        have s7 : Bd < w'.heap.size := Nat.lt_of_lt_of_le hBl hSw.size
        have s8 : (Instr.lookup 90 (.map (some Nb)) (.string nm) false).run Tryz.prog w' = .ok (.bool false) w' := HLN.out w' hSw
        clear hHeld hSw
        go_simp
      simp only [Act.put, List.getElem_toArray, List.getElem_cons_zero, List.getElem_cons_succ, List.setIfInBounds_toArray, List.set_cons_zero, List.set_cons_succ]
      refine wpAnyZ_take (i := 4) (v := .pointer (some ⟨X + 1, 1, none⟩)) [] rfl (by kernel_rfl) (by kernel_rfl) (by kernel_rfl) (by kernel_rfl) (fun _ _ _ h => h) (Or.inl ⟨by kernel_rfl, fun w' hSw => ?_⟩) hHeld ?_
      · have s0 := (hSw.cell (p := ⟨X, 0, none⟩) hXl).trans x0
        have s1 : X < w'.heap.size := Nat.lt_of_lt_of_le hXl hSw.size
        have s2 := (hSw.cell (p := ⟨X + 1, 1, none⟩) hIl).trans i1
        have s3 := (hSw.cell (p := ⟨X + 1, 2, none⟩) hIl).trans i2
        have s4 : X + 1 < w'.heap.size := Nat.lt_of_lt_of_le hIl hSw.size
        have s5 := (hSw.cell (p := ⟨Bd, 5, none⟩) hBl).trans b5
        have s6 := (hSw.cell (p := ⟨Bd, 6, none⟩) hBl).trans b6
        have s7 : Bd < w'.heap.size := Nat.lt_of_lt_of_le hBl hSw.size
        have s8 : (Instr.lookup 90 (.map (some Nb)) (.string nm) false).run Tryz.prog w' = .ok (.bool false) w' := HLN.out w' hSw
        clear hHeld hSw
        go_simp
      simp only [Act.put, List.getElem_toArray, List.getElem_cons_zero, List.getElem_cons_succ, List.setIfInBounds_toArray, List.set_cons_zero, List.set_cons_succ]
      refine wpAnyZ_take (i := 5) (v := .string nm) [] rfl (by kernel_rfl) (by kernel_rfl) (by kernel_rfl) (by kernel_rfl) (fun _ _ _ h => h) (Or.inl ⟨by kernel_rfl, fun w' hSw => ?_⟩) hHeld ?_
      · have s0 := (hSw.cell (p := ⟨X, 0, none⟩) hXl).trans x0
        have s1 : X < w'.heap.size := Nat.lt_of_lt_of_le hXl hSw.size
        have s2 := (hSw.cell (p := ⟨X + 1, 1, none⟩) hIl).trans i1
        have s3 := (hSw.cell (p := ⟨X + 1, 2, none⟩) hIl).trans i2
        have s4 : X + 1 < w'.heap.size := Nat.lt_of_lt_of_le hIl hSw.size
        have s5 := (hSw.cell (p := ⟨Bd, 5, none⟩) hBl).trans b5
        have s6 := (hSw.cell (p := ⟨Bd, 6, none⟩) hBl).trans b6
        have s7 : Bd < w'.heap.size := Nat.lt_of_lt_of_le hBl hSw.size
        have s8 : (Instr.lookup 90 (.map (some Nb)) (.string nm) false).run Tryz.prog w' = .ok (.bool false) w' := HLN.out w' hSw
        clear hHeld hSw
        go_simp
      simp only [Act.put, List.getElem_toArray, List.getElem_cons_zero, List.getElem_cons_succ, List.setIfInBounds_toArray, List.set_cons_zero, List.set_cons_succ]
      refine wpAnyZ_take (i := 6) (v := .bool false) [] rfl (by kernel_rfl) (by kernel_rfl) (by kernel_rfl) (by kernel_rfl) (fun _ _ _ h => h) (Or.inl ⟨by kernel_rfl, fun w' hSw => ?_⟩) hHeld ?_
      · have s0 := (hSw.cell (p := ⟨X, 0, none⟩) hXl).trans x0
        have s1 : X < w'.heap.size := Nat.lt_of_lt_of_le hXl hSw.size
        have s2 := (hSw.cell (p := ⟨X + 1, 1, none⟩) hIl).trans i1
        have s3 := (hSw.cell (p := ⟨X + 1, 2, none⟩) hIl).trans i2
        have s4 : X + 1 < w'.heap.size := Nat.lt_of_lt_of_le hIl hSw.size
        have s5 := (hSw.cell (p := ⟨Bd, 5, none⟩) hBl).trans b5
        have s6 := (hSw.cell (p := ⟨Bd, 6, none⟩) hBl).trans b6
        have s7 : Bd < w'.heap.size := Nat.lt_of_lt_of_le hBl hSw.size
        have s8 : (Instr.lookup 90 (.map (some Nb)) (.string nm) false).run Tryz.prog w' = .ok (.bool false) w' := HLN.out w' hSw
        clear hHeld hSw
        go_simp
      simp only [Act.put, List.getElem_toArray, List.getElem_cons_zero, List.getElem_cons_succ, List.setIfInBounds_toArray, List.set_cons_zero, List.set_cons_succ]
      refine wpAnyZ_take (i := 7) (v := .bool false) [] rfl (by kernel_rfl) (by kernel_rfl) (by kernel_rfl) (by kernel_rfl) (fun _ _ _ h => h) (Or.inl ⟨by kernel_rfl, fun w' hSw => ?_⟩) hHeld ?_
      · have s0 := (hSw.cell (p := ⟨X, 0, none⟩) hXl).trans x0
        have s1 : X < w'.heap.size := Nat.lt_of_lt_of_le hXl hSw.size
        have s2 := (hSw.cell (p := ⟨X + 1, 1, none⟩) hIl).trans i1
        have s3 := (hSw.cell (p := ⟨X + 1, 2, none⟩) hIl).trans i2
        have s4 : X + 1 < w'.heap.size := Nat.lt_of_lt_of_le hIl hSw.size
        have s5 := (hSw.cell (p := ⟨Bd, 5, none⟩) hBl).trans b5
        have s6 := (hSw.cell (p := ⟨Bd, 6, none⟩) hBl).trans b6
        have s7 : Bd < w'.heap.size := Nat.lt_of_lt_of_le hBl hSw.size
        have s8 : (Instr.lookup 90 (.map (some Nb)) (.string nm) false).run Tryz.prog w' = .ok (.bool false) w' := HLN.out w' hSw
        clear hHeld hSw
        go_simp
      simp only [Act.put, List.getElem_toArray, List.getElem_cons_zero, List.getElem_cons_succ, List.setIfInBounds_toArray, List.set_cons_zero, List.set_cons_succ]
      refine wpAnyZ_take (i := 8) (v := .pointer (some ⟨X + 1, 2, none⟩)) [] rfl (by kernel_rfl) (by kernel_rfl) (by kernel_rfl) (by kernel_rfl) (fun _ _ _ h => h) (Or.inl ⟨by kernel_rfl, fun w' hSw => ?_⟩) hHeld ?_
      · have s0 := (hSw.cell (p := ⟨X, 0, none⟩) hXl).trans x0
        have s1 : X < w'.heap.size := Nat.lt_of_lt_of_le hXl hSw.size
        have s2 := (hSw.cell (p := ⟨X + 1, 1, none⟩) hIl).trans i1
        have s3 := (hSw.cell (p := ⟨X + 1, 2, none⟩) hIl).trans i2
        have s4 : X + 1 < w'.heap.size := Nat.lt_of_lt_of_le hIl hSw.size
        have s5 := (hSw.cell (p := ⟨Bd, 5, none⟩) hBl).trans b5
        have s6 := (hSw.cell (p := ⟨Bd, 6, none⟩) hBl).trans b6
        have s7 : Bd < w'.heap.size := Nat.lt_of_lt_of_le hBl hSw.size
        have s8 : (Instr.lookup 90 (.map (some Nb)) (.string nm) false).run Tryz.prog w' = .ok (.bool false) w' := HLN.out w' hSw
        clear hHeld hSw
        go_simp
      simp only [Act.put, List.getElem_toArray, List.getElem_cons_zero, List.getElem_cons_succ, List.setIfInBounds_toArray, List.set_cons_zero, List.set_cons_succ]
      refine wpAnyZ_take (i := 9) (v := .int .i64 xn) [] rfl (by kernel_rfl) (by kernel_rfl) (by kernel_rfl) (by kernel_rfl) (fun _ _ _ h => h) (Or.inl ⟨by kernel_rfl, fun w' hSw => ?_⟩) hHeld ?_
      · have s0 := (hSw.cell (p := ⟨X, 0, none⟩) hXl).trans x0
        have s1 : X < w'.heap.size := Nat.lt_of_lt_of_le hXl hSw.size
        have s2 := (hSw.cell (p := ⟨X + 1, 1, none⟩) hIl).trans i1
        have s3 := (hSw.cell (p := ⟨X + 1, 2, none⟩) hIl).trans i2
        have s4 : X + 1 < w'.heap.size := Nat.lt_of_lt_of_le hIl hSw.size
        have s5 := (hSw.cell (p := ⟨Bd, 5, none⟩) hBl).trans b5
        have s6 := (hSw.cell (p := ⟨Bd, 6, none⟩) hBl).trans b6
        have s7 : Bd < w'.heap.size := Nat.lt_of_lt_of_le hBl hSw.size
        have s8 : (Instr.lookup 90 (.map (some Nb)) (.string nm) false).run Tryz.prog w' = .ok (.bool false) w' := HLN.out w' hSw
        clear hHeld hSw
        go_simp
      simp only [Act.put, List.getElem_toArray, List.getElem_cons_zero, List.getElem_cons_succ, List.setIfInBounds_toArray, List.set_cons_zero, List.set_cons_succ]
      refine wpAnyZ_take (i := 10) (v := .bool false) [] rfl (by kernel_rfl) (by kernel_rfl) (by kernel_rfl) (by kernel_rfl) (fun _ _ _ h => h) (Or.inl ⟨by kernel_rfl, fun w' hSw => ?_⟩) hHeld ?_
      · have s0 := (hSw.cell (p := ⟨X, 0, none⟩) hXl).trans x0
        have s1 : X < w'.heap.size := Nat.lt_of_lt_of_le hXl hSw.size
        have s2 := (hSw.cell (p := ⟨X + 1, 1, none⟩) hIl).trans i1
        have s3 := (hSw.cell (p := ⟨X + 1, 2, none⟩) hIl).trans i2
        have s4 : X + 1 < w'.heap.size := Nat.lt_of_lt_of_le hIl hSw.size
        have s5 := (hSw.cell (p := ⟨Bd, 5, none⟩) hBl).trans b5
        have s6 := (hSw.cell (p := ⟨Bd, 6, none⟩) hBl).trans b6
        have s7 : Bd < w'.heap.size := Nat.lt_of_lt_of_le hBl hSw.size
        have s8 : (Instr.lookup 90 (.map (some Nb)) (.string nm) false).run Tryz.prog w' = .ok (.bool false) w' := HLN.out w' hSw
        clear hHeld hSw
        go_simp
      simp only [Act.put, List.getElem_toArray, List.getElem_cons_zero, List.getElem_cons_succ, List.setIfInBounds_toArray, List.set_cons_zero, List.set_cons_succ]
      refine wpAnyZ_take (i := 11) (v := .bool false) [] rfl (by kernel_rfl) (by kernel_rfl) (by kernel_rfl) (by kernel_rfl) (fun _ _ _ h => h) (Or.inl ⟨by kernel_rfl, fun w' hSw => ?_⟩) hHeld ?_
      · have s0 := (hSw.cell (p := ⟨X, 0, none⟩) hXl).trans x0
        have s1 : X < w'.heap.size := Nat.lt_of_lt_of_le hXl hSw.size
        have s2 := (hSw.cell (p := ⟨X + 1, 1, none⟩) hIl).trans i1
        have s3 := (hSw.cell (p := ⟨X + 1, 2, none⟩) hIl).trans i2
        have s4 : X + 1 < w'.heap.size := Nat.lt_of_lt_of_le hIl hSw.size
        have s5 := (hSw.cell (p := ⟨Bd, 5, none⟩) hBl).trans b5
        have s6 := (hSw.cell (p := ⟨Bd, 6, none⟩) hBl).trans b6
        have s7 : Bd < w'.heap.size := Nat.lt_of_lt_of_le hBl hSw.size
        have s8 : (Instr.lookup 90 (.map (some Nb)) (.string nm) false).run Tryz.prog w' = .ok (.bool false) w' := HLN.out w' hSw
        clear hHeld hSw
        go_simp
      simp only [Act.put, List.getElem_toArray, List.getElem_cons_zero, List.getElem_cons_succ, List.setIfInBounds_toArray, List.set_cons_zero, List.set_cons_succ]
      refine wpAnyZ_take (i := 12) (v := undef) [] rfl (by kernel_rfl) (by kernel_rfl) (by kernel_rfl) (by kernel_rfl) (fun _ _ _ h => h) (Or.inr ⟨by kernel_rfl, rfl⟩) hHeld ?_
      simp only [Act.put, List.getElem_toArray, List.getElem_cons_zero, List.getElem_cons_succ, List.setIfInBounds_toArray, List.set_cons_zero, List.set_cons_succ]
      refine wpAnyZ_take (i := 13) (v := undef) [] rfl (by kernel_rfl) (by kernel_rfl) (by kernel_rfl) (by kernel_rfl) (fun _ _ _ h => h) (Or.inr ⟨by kernel_rfl, rfl⟩) hHeld ?_
      simp only [Act.put, List.getElem_toArray, List.getElem_cons_zero, List.getElem_cons_succ, List.setIfInBounds_toArray, List.set_cons_zero, List.set_cons_succ]
      refine wpAnyZ_take (i := 14) (v := undef) [] rfl (by kernel_rfl) (by kernel_rfl) (by kernel_rfl) (by kernel_rfl) (fun _ _ _ h => h) (Or.inr ⟨by kernel_rfl, rfl⟩) hHeld ?_
      simp only [Act.put, List.getElem_toArray, List.getElem_cons_zero, List.getElem_cons_succ, List.setIfInBounds_toArray, List.set_cons_zero, List.set_cons_succ]
      refine wpAnyZ_take (i := 15) (v := undef) [] rfl (by kernel_rfl) (by kernel_rfl) (by kernel_rfl) (by kernel_rfl) (fun _ _ _ h => h) (Or.inr ⟨by kernel_rfl, rfl⟩) hHeld ?_
      simp only [Act.put, List.getElem_toArray, List.getElem_cons_zero, List.getElem_cons_succ, List.setIfInBounds_toArray, List.set_cons_zero, List.set_cons_succ]
      refine wpAnyZ_take (i := 16) (v := .bool false) [] rfl (by kernel_rfl) (by kernel_rfl) (by kernel_rfl) (by kernel_rfl) (fun _ _ _ h => h) (Or.inl ⟨by kernel_rfl, fun w' hSw => ?_⟩) hHeld ?_
      · have s0 := (hSw.cell (p := ⟨X, 0, none⟩) hXl).trans x0
        have s1 : X < w'.heap.size := Nat.lt_of_lt_of_le hXl hSw.size
        have s2 := (hSw.cell (p := ⟨X + 1, 1, none⟩) hIl).trans i1
        have s3 := (hSw.cell (p := ⟨X + 1, 2, none⟩) hIl).trans i2
        have s4 : X + 1 < w'.heap.size := Nat.lt_of_lt_of_le hIl hSw.size
        have s5 := (hSw.cell (p := ⟨Bd, 5, none⟩) hBl).trans b5
        have s6 := (hSw.cell (p := ⟨Bd, 6, none⟩) hBl).trans b6
        have s7 : Bd < w'.heap.size := Nat.lt_of_lt_of_le hBl hSw.size
        have s8 : (Instr.lookup 90 (.map (some Nb)) (.string nm) false).run Tryz.prog w' = .ok (.bool false) w' := HLN.out w' hSw
        clear hHeld hSw
        go_simp
      simp only [Act.put, List.getElem_toArray, List.getElem_cons_zero, List.getElem_cons_succ, List.setIfInBounds_toArray, List.set_cons_zero, List.set_cons_succ]
      refine wpAnyZ_take (i := 17) (v := .bool false) [] rfl (by kernel_rfl) (by kernel_rfl) (by kernel_rfl) (by kernel_rfl) (fun _ _ _ h => h) (Or.inl ⟨by kernel_rfl, fun w' hSw => ?_⟩) hHeld ?_
      · have s0 := (hSw.cell (p := ⟨X, 0, none⟩) hXl).trans x0
        have s1 : X < w'.heap.size := Nat.lt_of_lt_of_le hXl hSw.size
        have s2 := (hSw.cell (p := ⟨X + 1, 1, none⟩) hIl).trans i1
        have s3 := (hSw.cell (p := ⟨X + 1, 2, none⟩) hIl).trans i2
        have s4 : X + 1 < w'.heap.size := Nat.lt_of_lt_of_le hIl hSw.size
        have s5 := (hSw.cell (p := ⟨Bd, 5, none⟩) hBl).trans b5
        have s6 := (hSw.cell (p := ⟨Bd, 6, none⟩) hBl).trans b6
        have s7 : Bd < w'.heap.size := Nat.lt_of_lt_of_le hBl hSw.size
        have s8 : (Instr.lookup 90 (.map (some Nb)) (.string nm) false).run Tryz.prog w' = .ok (.bool false) w' := HLN.out w' hSw
        clear hHeld hSw
        go_simp
      simp only [Act.put, List.getElem_toArray, List.getElem_cons_zero, List.getElem_cons_succ, List.setIfInBounds_toArray, List.set_cons_zero, List.set_cons_succ]
      refine wpAnyZ_take (i := 18) (v := .bool false) [] rfl (by kernel_rfl) (by kernel_rfl) (by kernel_rfl) (by kernel_rfl) (fun _ _ _ h => h) (Or.inl ⟨by kernel_rfl, fun w' hSw => ?_⟩) hHeld ?_
      · have s0 := (hSw.cell (p := ⟨X, 0, none⟩) hXl).trans x0
        have s1 : X < w'.heap.size := Nat.lt_of_lt_of_le hXl hSw.size
        have s2 := (hSw.cell (p := ⟨X + 1, 1, none⟩) hIl).trans i1
        have s3 := (hSw.cell (p := ⟨X + 1, 2, none⟩) hIl).trans i2
        have s4 : X + 1 < w'.heap.size := Nat.lt_of_lt_of_le hIl hSw.size
        have s5 := (hSw.cell (p := ⟨Bd, 5, none⟩) hBl).trans b5
        have s6 := (hSw.cell (p := ⟨Bd, 6, none⟩) hBl).trans b6
        have s7 : Bd < w'.heap.size := Nat.lt_of_lt_of_le hBl hSw.size
        have s8 : (Instr.lookup 90 (.map (some Nb)) (.string nm) false).run Tryz.prog w' = .ok (.bool false) w' := HLN.out w' hSw
        clear hHeld hSw
        go_simp
      simp only [Act.put, List.getElem_toArray, List.getElem_cons_zero, List.getElem_cons_succ, List.setIfInBounds_toArray, List.set_cons_zero, List.set_cons_succ]
      refine wpAnyZ_done (by kernel_rfl) ?_ _
      go_step
      refine HKN.out _ _ ?_
      go_step
      go_step
      go_meet
      exact ⟨rfl, Lib.hid hHeld⟩
  case rest =>
    obtain ⟨rfl, HBc⟩ := hcut
    have x0 : wc.cell? ⟨X, 0, none⟩ = some (.pointer (some ⟨Bd, 0, none⟩)) := (HBc.out.cell (p := ⟨X, 0, none⟩) hXl).trans x0
    have i1 : wc.cell? ⟨X + 1, 1, none⟩ = some (.string nm) := (HBc.out.cell (p := ⟨X + 1, 1, none⟩) hIl).trans i1
    have b5 : wc.cell? ⟨Bd, 5, none⟩ = some (.map (some Nb)) := (HBc.out.cell (p := ⟨Bd, 5, none⟩) hBl).trans b5
    have hXl : X < wc.heap.size := Nat.lt_of_lt_of_le hXl HBc.out.size
    have hIl : X + 1 < wc.heap.size := Nat.lt_of_lt_of_le hIl HBc.out.size
    have hBl : Bd < wc.heap.size := Nat.lt_of_lt_of_le hBl HBc.out.size
    have HB1 := Lib.hid (HB0.out.keep HBc.out)
    clear i2 b6 HLN
    obtain ⟨W3, hpu, HN3, HM3⟩ := (HB1.out.nm.keep (below_drewN' wc)).put strK Tryz.underlying90 Tryz.underlying4 (by have := HNN.out; omega) (key := .string nm) (kl := strL nm) (WideMaps.keyOf_string_mk Tryz.underlying9 (by rw [HNM.out]; have := HZ5.out; unfold maxLen; omega)) (by trivial)
    go_upto_region 3 with (fail)
    go_still_tail 6, (by kernel_rfl)
    change wpList _ _ _ _ _ wc.drew
    go_upto_region 4 with (fail)
    clear hpu
    have HM3v : Hid (Mod (fun j => j = Nb) wc W3) := Lib.hid ((modB (below_drewN' wc)).trans HM3.out)
    have HBN : Hid (Bd ≠ Nb ∧ Tb ≠ Nb ∧ X ≠ Nb ∧ X + 1 ≠ Nb ∧ base ≤ X) := Lib.hid (by have := HB1.out.ly; have := HXX.out; have := HB.out.ly; omega)
    have HBO3 : Hid (BdO W3 Bd v1 v2 v4 Nb Tb fd) := Lib.hid (by have h := HB1.out.ow.mod HM3v.out HBN.out.1; rw [HFD.out]; exact h)
    have x0 : W3.cell? ⟨X, 0, none⟩ = some (.pointer (some ⟨Bd, 0, none⟩)) := (HM3v.out.cell (p := ⟨X, 0, none⟩) hXl HBN.out.2.2.1).trans x0
    have hXl : X < W3.heap.size := Nat.lt_of_lt_of_le hXl HM3v.out.size
    have HIc := Lib.hid (HI0.out.keep HBc.out HI0.out.lt)
    have HI3 := Lib.hid (HIc.out.mod HM3v.out HBN.out.2.2.2.1)
    have i2 : W3.cell? ⟨X + 1, 2, none⟩ = some (.int .i64 xn) := by have h := HI3.out.cell (i := 2) (by omega); rw [HXN.out, ← HE3.out]; exact h
    have hIl : X + 1 < W3.heap.size := HI3.out.lt
    have b6 : W3.cell? ⟨Bd, 6, none⟩ = some (.bool fd) := HBO3.out.cell (i := 6) (by omega)
    have f6 := HBO3.out.frozen 6
    have hBl : Bd < W3.heap.size := HBO3.out.lt
    obtain ⟨zz, hzz⟩ : ∃ z, (xn == 1) = z := ⟨_, rfl⟩
    have HZZ := Lib.hid hzz
    clear i1 b5
    go_cut [] from 35 to 46 (fun wx => Hid (BdO wx Bd v1 v2 v4 Nb Tb (fd || zz)) ∧ Hid (Mod (fun j => j = Bd) W3 wx))
    case first =>
      cases fd
      case false =>
        go_still_tail 12, (by kernel_rfl)
        change wpList _ _ _ _ _ W3.drew
        go_wp2_with fail
        go_meet
        exact ⟨Lib.hid ((Own.set HBO3.out 6 (.bool zz)).congr (fun i hi => by match i, hi with | 0, _ => rfl | 1, _ => rfl | 2, _ => rfl | 3, _ => rfl | 4, _ => rfl | 5, _ => rfl | 6, _ => rfl | 7, _ => rfl | 8, _ => rfl)), Lib.hid (((show Mod (fun j => j = Bd) W3 W3 from Mod.refl _ W3).setCell (p := ⟨Bd, 6, none⟩) (.inl rfl) _).drew)⟩
      case true =>
        go_still_tail 12, (by kernel_rfl)
        change wpList _ _ _ _ _ W3.drew
        go_wp2_with fail
        go_meet
        exact ⟨Lib.hid ((Own.set HBO3.out 6 (.bool true)).congr (fun i hi => by match i, hi with | 0, _ => rfl | 1, _ => rfl | 2, _ => rfl | 3, _ => rfl | 4, _ => rfl | 5, _ => rfl | 6, _ => rfl | 7, _ => rfl | 8, _ => rfl)), Lib.hid (((show Mod (fun j => j = Bd) W3 W3 from Mod.refl _ W3).setCell (p := ⟨Bd, 6, none⟩) (.inl rfl) _).drew)⟩
    case rest =>
      obtain ⟨HBO4, HM4⟩ := hcut
      have HM34 : Hid (Mod (fun j => j = Nb ∨ j = Bd) _ wc) := Lib.hid ((HM3v.out.mono (fun j _ e => .inl e)).trans (HM4.out.mono (fun j _ e => .inr e)))
      have hl : ∀ {α : Type} {t : TypeId} {sz : Nat} {enc : α → List Value} {v : Value} {xs : List α}, OwnR t sz enc _ base v xs → OwnR t sz enc wc base v xs := fun h => OwnR.mod h HM34.out (fun j hj e => by have h1 := (World.ownsRow.lt h j hj).1; have := HB1.out.ly; omega)
      have HBP : Hid (BdM wc base Bd Nb Tb nt (nn + 1) (preI x b) v1 v2 v4) := Lib.hid (by
        refine ⟨?_, hl HB1.out.l1, hl HB1.out.l2, hl HB1.out.l4, HB1.out.th.mod HM34.out (by have := HB1.out.ly; omega), ?_, by have := HB1.out.ly; have := HM34.out.size; omega, HB1.out.ln⟩
        · have h := HBO4.out
          rw [← HZZ.out, HFD.out, HXN.out] at h
          exact h
        · have h := HN3.out.modA HM4.out (by have := HB1.out.ly; omega)
          rw [HNM.out] at h
          show SetM Tryz.prog 9 4 wc Nb (nn + 1) ((b.names ++ [x.name.data.toList]).map Lit.string)
          rw [List.map_append, List.map_singleton]
          exact h)
      have HMw : Hid (Mod (fun j => j = Nb ∨ j = Bd) w wc) := Lib.hid (((modB HBW0.out).trans (modB HBc.out)).trans HM34.out)
      have HX4 := Lib.hid ((HX0.out.keep HBc.out HX0.out.lt).mod HM34.out (by have := HBN.out; have := HB.out.ly; omega))
      have HI4 := Lib.hid (HIc.out.mod HM34.out (by have := HBN.out; have := HB.out.ly; omega))
      have x0 : wc.cell? ⟨X, 0, none⟩ = some (.pointer (some ⟨Bd, 0, none⟩)) := HX4.out.cell (i := 0) (by omega)
      have hXl : X < wc.heap.size := HX4.out.lt
      have i2 : wc.cell? ⟨X + 1, 2, none⟩ = some (.int .i64 xn) := by have h := HI4.out.cell (i := 2) (by omega); rw [HXN.out, ← HE3.out]; exact h
      have hIl : X + 1 < wc.heap.size := HI4.out.lt
      obtain ⟨rm, hrm⟩ : ∃ n, n = roomN x.n (preI x b) := ⟨_, rfl⟩
      obtain ⟨lim, hlim⟩ : ∃ n : Nat, n = if x.n = 3 then 8 else 16 := ⟨_, rfl⟩
      have hlt : rm < lim := by have h := HZ4.out; rw [hrm, hlim]; exact h
      have HRM : Hid (roomN x.n (preI x b) < if x.n = 3 then 8 else 16) := Lib.hid (by rw [← hrm, ← hlim]; exact hlt)
      have HRO : Hid (∀ W, W = wc → Calls Tryz.prog 73 #[.pointer (some ⟨Bd, 0, none⟩), .int .i64 xn] W fun e w' => e = .returned (.tuple #[.int .i64 (rm : Nat), .int .i64 (lim : Nat)]) ∧ w' = W) := Lib.hid (fun W hW => by
        rw [hW, HXN.out, hrm, hlim]
        have h := stRoom_ok x.n base Bd Nb Tb nt (nn + 1) (preI x b) v1 v2 v4 wc HBP HZ3.out
        refine h.mono (fun e w' k => ⟨?_, k.2⟩)
        rw [k.1]
        split <;> rfl)
      have hltz : ¬ (lim : Int) ≤ (rm : Int) := by omega
      clear hrm hlim hl b6 f6 hzz
      go_wp2_with fail
      refine (HRO.out wc rfl).mono ?_
      rintro e w5 ⟨rfl, hw5⟩
      rw [hw5]
      clear hw5 i2
      have i0 : wc.cell? ⟨X + 1, 0, none⟩ = some (.int .i64 hI.kind) := HI4.out.cell (i := 0) (by omega)
      have i1 : wc.cell? ⟨X + 1, 1, none⟩ = some (.string hI.name) := HI4.out.cell (i := 1) (by omega)
      have i2 : wc.cell? ⟨X + 1, 2, none⟩ = some (.int .i64 hI.n) := HI4.out.cell (i := 2) (by omega)
      have i3 : wc.cell? ⟨X + 1, 3, none⟩ = some (.int .i64 (hI.pos : Nat)) := HI4.out.cell (i := 3) (by omega)
      have i4 : wc.cell? ⟨X + 1, 4, none⟩ = some (.slice hI.a hI.len hI.c) := HI4.out.cell (i := 4) (by omega)
      go_upto_region 12 with (fail)
      obtain ⟨w6, hw6⟩ : ∃ W, W = (wc.alloc (.map #[] 0)).alloc (.cells #[.pointer (some ⟨Bd, 0, none⟩), .int .i64 hI.kind, .string hI.name, .int .i64 hI.n, .int .i64 (hI.pos : Nat), .slice hI.a hI.len hI.c, .map (some wc.heap.size), .string ⟨#[]⟩, .int .i64 0, .int .i64 0, .int .i64 0, .int .i64 0, .int .i64 0, .int .i64 0, .int .i64 0, .int .i64 0, .int .i64 0, .int .i64 0, .string ⟨#[]⟩, .int .i64 0, .int .i64 0, .int .i64 0, .string ⟨#[]⟩, .int .i64 0, .int .i64 0, .int .i64 0, .int .i64 0, .int .i64 0, .int .i64 0, .int .i64 0, .string ⟨#[]⟩, .int .i64 0] 137) := ⟨_, rfl⟩
      obtain ⟨hb, hhb⟩ : ∃ h, h = wc.heap.size := ⟨_, rfl⟩
      have hb6 : Below wc.heap.size wc w6 := by rw [hw6]; exact ((Below.refl _ _).alloc (Nat.le_refl _) _).alloc (by simp) _
      have HR6 : Hid (RdgM w6 (hb + 1) Bd hI hb zeroS) := Lib.hid (by
        rw [hw6, hhb]
        exact rdg_new _ Bd hI _ _ (by simp))
      have HS6 : Hid (SetM Tryz.prog 9 4 w6 hb 0 []) := Lib.hid (by rw [hw6, hhb]; exact (SetM.made (P := Tryz.prog) (k := 9) (e := 4) wc).keep ((Below.refl _ _).alloc (Nat.le_refl _) _))
      rw [← hw6, ← hhb]
      have HHB : Hid (X + 1 < hb ∧ base ≤ hb) := Lib.hid (by have := HBN.out; rw [hhb]; omega)
      have HB6 := Lib.hid (HBP.out.keep hb6)
      have HM6 : Hid (Mod (fun j => j = Nb ∨ j = Bd) w w6) := Lib.hid (HMw.out.trans (modB hb6))
      clear hw6 hhb hb6 i0 i1 i2 i3 i4 x0 hXl hIl hltz
      have HG6 : Hid (GrT (okNd okLf) w6 lo hi (.slice hI.a hI.len hI.c) hsK x.kids) := Lib.hid (HGK.out.calm (okNd_firm okLf_firm) (Calm.of HM6.out (fun j h1 h2 e => by have := HX.out.2.2.2.2.2.1 j h1 h2; omega)))
      have HU6 : Hid (RulesB w6 lr hr Mb (ruleT Sa Bb Sc)) := Lib.hid (HU.out.mod HM6.out (fun j h1 h2 e => by have := HX.out.2.2.2.2.1 j h1 h2; omega))
      have HC6 : Hid (w6.cell? ⟨Sa, 0, none⟩ = some (.int .i64 1) ∧ w6.cell? ⟨Sa, 1, none⟩ = some (.int .i64 1000) ∧ w6.cell? ⟨Sc, 0, none⟩ = some (.int .i64 1) ∧ w6.cell? ⟨Sc, 1, none⟩ = some (.int .i64 80)) := Lib.hid (by
        have hx := HX.out.2.2.2.2.2.2
        refine ⟨(HM6.out.cell (p := ⟨Sa, 0, none⟩) (World.block_lt_of_cell? _ _ HS.out.1) ?_).trans HS.out.1, (HM6.out.cell (p := ⟨Sa, 1, none⟩) (World.block_lt_of_cell? _ _ HS.out.2.1) ?_).trans HS.out.2.1, (HM6.out.cell (p := ⟨Sc, 0, none⟩) (World.block_lt_of_cell? _ _ HS.out.2.2.1) ?_).trans HS.out.2.2.1, (HM6.out.cell (p := ⟨Sc, 1, none⟩) (World.block_lt_of_cell? _ _ HS.out.2.2.2) ?_).trans HS.out.2.2.2⟩
        · show ¬ (Sa = Nb ∨ Sa = Bd); omega
        · show ¬ (Sa = Nb ∨ Sa = Bd); omega
        · show ¬ (Sc = Nb ∨ Sc = Bd); omega
        · show ¬ (Sc = Nb ∨ Sc = Bd); omega)
      have HAT := Lib.hid (stAttrs_ok hI hsK x.kids lo hi lr hr base (hb + 1) Bd hb Tb nt Mb Sa Bb Sc b.th zeroS s seen w6 HR6 HG6 HU6 HS6 (Lib.hid (HB6.out.ow.cell (i := 7) (by omega))) (Lib.hid HB6.out.th) HC6 (Lib.hid (by have h1 := HX.out; have h2 := HB6.out.ly; have h3 := HHB.out; exact ⟨h1.1, h1.2.1, h2.1, h2.2.2.1, h1.2.2.1, h1.2.2.2.1, by omega, h3.2, by omega, h2.2.2.2.2.2.2⟩)) (by rw [HE3.out]; exact HZ6.out) HNN.out.2.2)
      go_wp2_with fail
      refine HAT.out.mono ?_
      rintro e w7 ⟨rfl, hr7, ⟨nh, hs7⟩, hm7⟩
      have HR7 := Lib.hid hr7
      have HS7 := Lib.hid hs7
      have HU7 : Hid (RulesB w7 lr hr Mb (ruleT Sa Bb Sc)) := Lib.hid (HU6.out.mod hm7 (fun j h1 h2 e => by have := HX.out.2.1; have := HHB.out; omega))
      have HM7 := Lib.hid hm7
      have hl7 : ∀ {α : Type} {t : TypeId} {sz : Nat} {enc : α → List Value} {v : Value} {xs : List α}, OwnR t sz enc w6 base v xs → t ≠ 137 → OwnR t sz enc w7 base v xs := fun h ht => OwnR.mod h HM7.out (fun j hj e => by
        rcases e with e | e
        · exact ownR_ne HR6.out h (fun e2 => ht e2.symm) j hj e
        · subst e
          obtain ⟨D, ⟨es, clock, hmap, _⟩, _⟩ := HS6.out
          rcases h.2 with ⟨hv, _⟩ | ⟨g', cap, cur, hv, _, hg, _⟩
          · rw [hv] at hj; cases hj
          · rw [hv] at hj
            injection hj with hj
            simp at hj
            rw [hj, hmap] at hg
            cases hg)
      have HB7 : Hid (BdM w7 base Bd Nb Tb nt (nn + 1) (preI x b) v1 v2 v4) := Lib.hid ⟨HB6.out.ow.mod HM7.out (by have := HHB.out; have := HB6.out.ly; omega), hl7 HB6.out.l1 (by decide), hl7 HB6.out.l2 (by decide), hl7 HB6.out.l4 (by decide), HB6.out.th.mod HM7.out (by have := HHB.out; have := HB6.out.ly; omega), HB6.out.nm.modA HM7.out (by have := HHB.out; have := HB6.out.ly; omega), by have := HB6.out.ly; have := HM7.out.size; omega, HB6.out.ln⟩
      have HWH := Lib.hid (stWhole_ok hI lr hr base (hb + 1) Bd hb nh Mb Sa Bb Sc s seen w7 HR7 HU7 HS7 (Lib.hid (by rw [HE3.out]; exact wholeD_ok HZ7.out)))
      clear hr7 hs7 hm7 hl7 HAT
      go_wp2_with fail
      refine HWH.out.mono ?_
      rintro e w8 ⟨rfl, hb8⟩
      have HR8 := Lib.hid (HR7.out.keep hb8 HR7.out.lt)
      have HB8 := Lib.hid (HB7.out.keep hb8)
      have HM8 : Hid (Mod (fun j => j = Bd ∨ j = Nb ∨ j = Tb ∨ base ≤ j) w w8) := Lib.hid (((HM6.out.mono (fun j _ e => by rcases e with e | e <;> simp [e])).trans (HM7.out.mono (fun j _ e => by have := HHB.out; rcases e with e | e <;> (right; right; right; omega)))).trans (modB hb8))
      have HDC := Lib.hid (stDecl_ok hI x s base (hb + 1) Bd hb Nb Tb nt (nn + 1) (preI x b) v1 v2 v4 w8 HR8 HB8 HE3.out HZ3.out HE2.out HZ5.out HRM.out (by have := HHB.out; omega) (by have := HNN.out; omega))
      clear hb8 HWH
      go_wp2_with fail
      refine HDC.out.mono ?_
      rintro e w9 ⟨rfl, hb9, hm9⟩
      have HB9 := Lib.hid hb9
      have HM9 : Hid (Mod (fun j => j = Bd ∨ j = Nb ∨ j = Tb ∨ base ≤ j) w w9) := Lib.hid (HM8.out.trans hm9)
      clear hb9 hm9 HDC
      go_wp2_with fail
      refine leaves_cons (f := 72) (args := #[.pointer (some ⟨X, 0, none⟩)]) (by simp) (by simp [go_sem]) ?_
      refine (stRead1_idle _ _).mono ?_
      rintro e u' w'' ⟨rfl, rfl, rfl⟩
      have HF : Hid ((∃ v1' v2' v4', BdM w9 base Bd Nb Tb (nt + 1) (nn + 1) b' v1' v2' v4') ∧ Mod (fun j => j = Bd ∨ j = Nb ∨ j = Tb ∨ base ≤ j) w w9) := Lib.hid ⟨by rw [HZ8.out]; exact HB9.out, HM9.out⟩
      simp [Leaves, settle, results, Tryz.results29, go_sem]
      exact HF.out
end Go.Proofs.YtpkonifeieepfaaGreat
/-
site.Build.
-/
namespace Go.Proofs.YtpkonifeieepfaaGreat
open Go.RowKit
set_option linter.unusedVariables false
set_option linter.unusedSimpArgs false
def runI : List (Nd (Nd Lf)) → BSt → Option BSt
  | [], b => some b
  | x :: r, b => match stepI x b with
    | some b' => runI r b'
    | none => none
theorem runI_cons {x : Nd (Nd Lf)} {r : List (Nd (Nd Lf))} {b z : BSt} (h : runI (x :: r) b = some z) : ∃ b', stepI x b = some b' ∧ runI r b' = some z := by
  unfold runI at h
  cases hs : stepI x b with
  | none => rw [hs] at h; cases h
  | some b' => rw [hs] at h; exact ⟨b', rfl, h⟩
def siteB (b : BSt) : GSite := ⟨b.cons, b.owns, [], b.chgs, []⟩
def startB : BSt := ⟨[], [], [], false, [], []⟩
theorem thF_nil : thF [] = fun _ => none := by
  funext kl
  cases kl <;> rfl
theorem Own.intNe {w : World} {g : Nat} {t : TypeId} {n : Nat} {f : Nat → Value} {q : Nat} (h : Own w g t n f) (hn : 0 < n) (hc : w.cell? ⟨q, 0, none⟩ = some (.int .i64 1)) (hf : f 0 ≠ .int .i64 1) : q ≠ g := by
  intro e
  subst e
  have h2 := h.cell hn
  rw [hc] at h2
  injection h2 with h2
  exact hf h2.symm
theorem SetM.intNe {P : Program} {k e : TypeId} {w : World} {b n q : Nat} {l : List Lit} {v : Value} (h : SetM P k e w b n l) (hc : w.cell? ⟨q, 0, none⟩ = some v) : q ≠ b := by
  intro e
  subst e
  obtain ⟨D, ⟨es, clock, h1, _⟩, _⟩ := h
  unfold World.cell? at hc
  simp [h1] at hc
/-- What Build returns for a source without errors. -/
def BuPost (w : World) (s : GSite) (e : Ending) (w' : World) : Prop := ∃ a1 c1 a2 c2 a4 c4, e = .returned (.tuple #[.agg #[.slice a1 s.cons.length c1, .slice a2 s.owns.length c2, .slice none 0 0, .slice a4 s.chgs.length c4, .slice none 0 0], .slice none 0 0]) ∧ RdSite w' a1 a2 none a4 none s.cons.length s.owns.length 0 s.chgs.length 0 s ∧ Below w.heap.size w w'
def siF (v1 v2 v3 v4 v5 : Value) (i : Nat) : Value := ([v1, v2, v3, v4, v5] : List Value)[i]?.getD undef
theorem load_site5 {w : World} {g : Nat} {a1 a2 a4 : Option Addr} {n1 c1 n2 c2 n4 c4 : Nat} (h : Own w g 28 5 (siF (.slice a1 n1 c1) (.slice a2 n2 c2) (.slice none 0 0) (.slice a4 n4 c4) (.slice none 0 0))) : (loadVar 28 ⟨g, 0, none⟩).run Tryz.prog w = .ok (.agg #[.slice a1 n1 c1, .slice a2 n2 c2, .slice none 0 0, .slice a4 n4 c4, .slice none 0 0]) w := by
  have h0 : w.cell? ⟨g, 0, none⟩ = some (.slice a1 n1 c1) := h.cell (i := 0) (by omega)
  have h1 : w.cell? ⟨g, 1, none⟩ = some (.slice a2 n2 c2) := h.cell (i := 1) (by omega)
  have h2 : w.cell? ⟨g, 2, none⟩ = some (.slice none 0 0) := h.cell (i := 2) (by omega)
  have h3 : w.cell? ⟨g, 3, none⟩ = some (.slice a4 n4 c4) := h.cell (i := 3) (by omega)
  have h4 : w.cell? ⟨g, 4, none⟩ = some (.slice none 0 0) := h.cell (i := 4) (by omega)
  clear h
  go_simp
set_option maxRecDepth 100000 in
set_option maxHeartbeats 8000000 in
theorem stBuild_ok (h : NH) (x : Nd (Nd (Nd Lf))) (lo hi : Nat) (bF : BSt) (w : World) (hok : okNd (okNd (okNd okLf)) w lo hi h x) (hhi : hi ≤ w.heap.size) (hv : VrOk x) (hrun : runI x.kids startB = some bF) (hfd : bF.fd = true) (hkl : ∀ y ∈ x.kids, y.kids.length ≤ 2000) (hk90 : x.kids.length ≤ 90) (hnz : ∀ y, y ∈ allNames (siteB bF) → y.size ≤ maxLen) :
    Calls Tryz.prog 11 #[nhV h] w (BuPost w (siteB bF)) := by
  obtain ⟨hkk, hna, hnn, hpo, ha, hln, hc⟩ := h
  have HVA := Lib.hid (fun (W : World) (hb : Below w.heap.size w W) => paValid_ok ⟨hkk, hna, hnn, hpo, ha, hln, hc⟩ x lo hi W ((okNd_firm (okNd_firm (okNd_firm okLf_firm))).calm hok (Calm.of (Mod.of_below hb) (fun j _ h2 h3 => by omega))) (by have := hb.size; omega) hv)
  obtain ⟨e1, e2, e3, e4, hs, g⟩ := hok
  obtain ⟨hl, hr0⟩ := g.rd
  dsimp only at g hl hr0
  rw [show nhV ⟨hkk, hna, hnn, hpo, ha, hln, hc⟩ = .agg #[.int .i64 hkk, .string hna, .int .i64 hnn, .int .i64 (hpo : Nat), .slice ha hln hc] from rfl] at HVA ⊢
  have HG := Lib.hid g
  have HXL : Hid (x.kids.length = hln) := Lib.hid (by rw [← g.len, hl])
  have HHI := Lib.hid hhi
  have HRUN := Lib.hid hrun
  have HFD := Lib.hid hfd
  have HKL := Lib.hid hkl
  have HNZ := Lib.hid hnz
  have hl90 : hln ≤ 90 := by have := HXL.out; omega
  clear e1 e2 e3 e4 g hl hr0 hhi hrun hfd hkl hv hk90 hnz
  obtain ⟨X, hX⟩ : ∃ X, X = w.heap.size := ⟨_, rfl⟩
  obtain ⟨W0, hW0⟩ : ∃ W, W = (w.alloc (.cells #[.int .i64 hkk, .string hna, .int .i64 hnn, .int .i64 (hpo : Nat), .slice ha hln hc] 49)).alloc (.cells #[.slice none 0 0, .slice none 0 0, .slice none 0 0, .slice none 0 0, .slice none 0 0] 28) := ⟨_, rfl⟩
  have hb0 : Below w.heap.size w W0 := by rw [hW0]; exact ((Below.refl _ _).alloc (Nat.le_refl _) _).alloc (by simp) _
  have HX0 : Hid (Own W0 X 49 5 (nodeF hkk hna hnn hpo (.slice ha hln hc))) := Lib.hid (by rw [hW0]; exact (nodeF_new _ _ _ _ _ _ _ hX.symm).alloc _)
  have HS0 : Hid (Own W0 (X + 1) 28 5 (siF (.slice none 0 0) (.slice none 0 0) (.slice none 0 0) (.slice none 0 0) (.slice none 0 0))) := Lib.hid (by rw [hW0]; exact Own.newAt _ 28 _ _ (by simp [hX]) (n := 5) rfl (fun i hi => by match i, hi with | 0, _ => rfl | 1, _ => rfl | 2, _ => rfl | 3, _ => rfl | 4, _ => rfl))
  have HB0 := Lib.hid hb0
  have HW0 := Lib.hid hW0
  have HXX := Lib.hid hX
  have hmkm : ∀ W : World, (Instr.makeMap 90 none).run Tryz.prog W = .ok (.map (some W.heap.size)) (W.alloc (.map #[] 0)) := fun W => run_makeMap 90 W
  have hmkt : ∀ W : World, (Instr.makeMap 91 none).run Tryz.prog W = .ok (.map (some W.heap.size)) (W.alloc (.map #[] 0)) := fun W => run_makeMap 91 W
  clear hb0 hW0 hX
  go_enter Tryz.func11, Tryz.ntmps11
  go_upto_region 1 with (fail)
  rw [← HW0.out, ← HXX.out]
  clear HW0
  have x0 : W0.cell? ⟨X, 0, none⟩ = some (.int .i64 hkk) := HX0.out.cell (i := 0) (by omega)
  have x1 : W0.cell? ⟨X, 1, none⟩ = some (.string hna) := HX0.out.cell (i := 1) (by omega)
  have x2 : W0.cell? ⟨X, 2, none⟩ = some (.int .i64 hnn) := HX0.out.cell (i := 2) (by omega)
  have x3 : W0.cell? ⟨X, 3, none⟩ = some (.int .i64 (hpo : Nat)) := HX0.out.cell (i := 3) (by omega)
  have x4 : W0.cell? ⟨X, 4, none⟩ = some (.slice ha hln hc) := HX0.out.cell (i := 4) (by omega)
  have hXl : X < W0.heap.size := HX0.out.lt
  go_wp2_with fail
  refine (HVA.out W0 HB0.out).mono ?_
  rintro e w1 ⟨rfl, hb1⟩
  have HB1 : Hid (Below w.heap.size w w1) := Lib.hid (below_then HB0.out hb1)
  have HX1 := Lib.hid (HX0.out.keep hb1 HX0.out.lt)
  have HS1 := Lib.hid (HS0.out.keep hb1 HS0.out.lt)
  have HXw : Hid (w.heap.size = X ∧ X + 1 < w1.heap.size) := Lib.hid ⟨HXX.out.symm, HS1.out.lt⟩
  clear hb1 x0 x1 x2 x3 x4 hXl HVA HX0 HS0
  go_upto_region 4 with (fail)
  obtain ⟨w2, hw2⟩ : ∃ W, W = ((w1.alloc (.map #[] 0)).alloc (.map #[] 0)).alloc (.cells #[.slice none 0 0, .slice none 0 0, .slice none 0 0, .slice none 0 0, .slice none 0 0, .map (some w1.heap.size), .bool false, .map (some (w1.heap.size + 1)), .slice none 0 0] 93) := ⟨_, rfl⟩
  obtain ⟨Nb, hNb⟩ : ∃ N, N = w1.heap.size := ⟨_, rfl⟩
  have hb2 : Below w1.heap.size w1 w2 := by rw [hw2]; exact (((Below.refl _ _).alloc (Nat.le_refl _) _).alloc (by simp) _).alloc (by simp; omega) _
  have HBD2 : Hid (BdO w2 (Nb + 2) (.slice none 0 0) (.slice none 0 0) (.slice none 0 0) Nb (Nb + 1) false) := Lib.hid (by rw [hw2, hNb]; exact Own.newAt _ 93 _ _ (by simp) (n := 9) rfl (fun i hi => by match i, hi with | 0, _ => rfl | 1, _ => rfl | 2, _ => rfl | 3, _ => rfl | 4, _ => rfl | 5, _ => rfl | 6, _ => rfl | 7, _ => rfl | 8, _ => rfl))
  have HNM2 : Hid (SetM Tryz.prog 9 4 w2 Nb 0 []) := Lib.hid (by rw [hw2, hNb]; exact ((SetM.made (P := Tryz.prog) (k := 9) (e := 4) w1).keep ((Below.refl _ _).alloc (Nat.le_refl _) _)).keep ((Below.refl _ _).alloc (Nat.le_refl _) _))
  have HTH2 : Hid (ValM Tryz.prog 9 w2 (Nb + 1) 0 (thF [])) := Lib.hid (by rw [hw2, hNb, thF_nil]; exact (show ValM Tryz.prog 9 ((w1.alloc (.map #[] 0)).alloc (.map #[] 0)) (w1.heap.size + 1) 0 (fun _ => none) from by have k := ValM.made (P := Tryz.prog) (k := 9) (w1.alloc (.map #[] 0)); simpa using k).keep ((Below.refl _ _).alloc (Nat.le_refl _) _))
  rw [← hw2, ← hNb, show Nb + 1 + 1 = Nb + 2 from rfl]
  have HX2 := Lib.hid (HX1.out.keep hb2 HX1.out.lt)
  have HS2 := Lib.hid (HS1.out.keep hb2 HS1.out.lt)
  have HB2 : Hid (Below w.heap.size w w2) := Lib.hid (below_then HB1.out hb2)
  have HNN : Hid (X + 1 < Nb ∧ Nb + 2 < w2.heap.size ∧ w.heap.size = X) := Lib.hid (by have h1 := HXw.out; have h2 := HBD2.out.lt; omega)
  clear hw2 hNb hb2 HX1 HS1 HB1
  go_wp2_with fail
  refine (stRules_ok w2).mono ?_
  rintro e w4 ⟨Mb, Sa, Bb, Sc, rfl, hu, ha0, ha1, hc0, hc1, hmb, hb4⟩
  have HRB : Hid (RulesB w4 w2.heap.size w4.heap.size Mb (ruleT Sa Bb Sc)) := Lib.hid (hu.bound hmb (fun r hr => by
    simp only [ruleT, ruleC, List.cons_append, List.nil_append, List.mem_cons, List.not_mem_nil, or_false] at hr
    rcases hr with h | h | h | h | h | h | h | h | h | h | h | h | h <;> (rw [h]; simp)))
  have HC4 : Hid (w4.cell? ⟨Sa, 0, none⟩ = some (.int .i64 1) ∧ w4.cell? ⟨Sa, 1, none⟩ = some (.int .i64 1000) ∧ w4.cell? ⟨Sc, 0, none⟩ = some (.int .i64 1) ∧ w4.cell? ⟨Sc, 1, none⟩ = some (.int .i64 80)) := Lib.hid ⟨ha0, ha1, hc0, hc1⟩
  have HBD4 := Lib.hid (HBD2.out.keep hb4 HBD2.out.lt)
  have HNM4 := Lib.hid (HNM2.out.keep hb4)
  have HTH4 := Lib.hid (HTH2.out.keep hb4)
  have HX4 := Lib.hid (HX2.out.keep hb4 HX2.out.lt)
  have HS4 := Lib.hid (HS2.out.keep hb4 HS2.out.lt)
  have HB4 : Hid (Below w.heap.size w w4) := Lib.hid (below_then HB2.out hb4)
  have HSS : Hid (Sa ≠ Nb + 2 ∧ Sa ≠ Nb ∧ Sc ≠ Nb + 2 ∧ Sc ≠ Nb ∧ Sa < w4.heap.size ∧ Sc < w4.heap.size ∧ Sa ≠ Nb + 1 ∧ Sc ≠ Nb + 1) := Lib.hid ⟨HBD4.out.intNe (by omega) ha0 (by simp [bdL]), HNM4.out.intNe ha0, HBD4.out.intNe (by omega) hc0 (by simp [bdL]), HNM4.out.intNe hc0, World.block_lt_of_cell? _ _ ha0, World.block_lt_of_cell? _ _ hc0, fun e => by
      obtain ⟨D, ⟨es, clock, h1, _⟩, _⟩ := HTH4.out
      rw [e] at ha0; unfold World.cell? at ha0; simp [h1] at ha0, fun e => by
      obtain ⟨D, ⟨es, clock, h1, _⟩, _⟩ := HTH4.out
      rw [e] at hc0; unfold World.cell? at hc0; simp [h1] at hc0⟩
  have HSZ4 : Hid (w2.heap.size ≤ w4.heap.size) := Lib.hid hb4.size
  have HBM4 : Hid (BdM w4 w4.heap.size (Nb + 2) Nb (Nb + 1) 0 0 startB (.slice none 0 0) (.slice none 0 0) (.slice none 0 0)) := Lib.hid ⟨HBD4.out, OwnR.nil _ _, OwnR.nil _ _, OwnR.nil _ _, HTH4.out, HNM4.out, by have h1 := HNN.out; have h2 := HSZ4.out; exact ⟨by omega, by omega, by omega, by omega, by omega, by omega, Nat.le_refl _⟩, ⟨by simp [startB], by simp [startB], by simp [startB]⟩⟩
  have HG4 : Hid (GrT (okNd (okNd okLf)) w4 lo hi (.slice ha hln hc) hs x.kids) := Lib.hid (HG.out.calm (okNd_firm (okNd_firm okLf_firm)) (Calm.of (Mod.of_below HB4.out) (fun j _ h2 h3 => by have := HHI.out; omega)))
  clear hu ha0 ha1 hc0 hc1 hmb hb4 HBD2 HNM2 HTH2 HX2 HS2 HBD4 HNM4 HTH4
  have x4 : w4.cell? ⟨X, 4, none⟩ = some (.slice ha hln hc) := HX4.out.cell (i := 4) (by omega)
  have hXl : X < w4.heap.size := HX4.out.lt
  go_wp2_with fail
  go_loopg [22] hln (fun g1 v22 wr => ∃ (i : Nat) (bi : BSt) (v1 v2 v4 : Value), v22 = .int .i64 i ∧ i ≤ hln ∧ hln - i ≤ g1 ∧ Hid (BdM wr w4.heap.size (Nb + 2) Nb (Nb + 1) i i bi v1 v2 v4) ∧ Hid (Mod (fun j => j = Nb + 2 ∨ j = Nb ∨ j = Nb + 1 ∨ w4.heap.size ≤ j) w4 wr) ∧ Hid (runI (x.kids.drop i) bi = some bF))
  case atStart => exact ⟨0, startB, _, _, _, by go_num, by omega, by omega, HBM4, Lib.hid (Mod.refl _ _), Lib.hid (by rw [List.drop_zero]; exact HRUN.out)⟩
  case round =>
    clear x4 hXl
    obtain ⟨i, bi, v1, v2, v4, rfl, hi', hg1, HBM, HM, HRI⟩ := hrel
    by_cases hlt : i < hln
    · have hltz : (i : Int) < (hln : Int) := by omega
      have HGr := Lib.hid (HG4.out.calm (okNd_firm (okNd_firm okLf_firm)) (Calm.of HM.out (fun j h1 h2 e => by have := HHI.out; have := HNN.out; have := HSZ4.out; omega)))
      obtain ⟨hl', hr'⟩ := HGr.out.rd
      obtain ⟨b, off, y, hA, hbl, hx, d0, d1, d2, d3, d4⟩ := node_at hr' (k := i) (by rw [hl']; exact hlt)
      have hkx : i < x.kids.length := by have := HXL.out; omega
      obtain ⟨l1, h1', q1, q2, q3, q4⟩ := HGr.out.mem i y x.kids[i] hx (List.getElem?_eq_getElem hkx)
      have hdrop := HRI.out
      rw [List.drop_eq_getElem_cons hkx] at hdrop
      obtain ⟨b', hst, hrn⟩ := runI_cons hdrop
      have hyl : y.len ≤ 2000 := by
        obtain ⟨_, _, _, _, hs2, g2⟩ := q4
        rw [← g2.rd.1, g2.len]
        exact HKL.out _ (List.getElem_mem hkx)
      have HRN := Lib.hid hrn
      have HA := Lib.hid hA
      have HRD : Hid (∀ W, Below wr.heap.size wr W → Calls Tryz.prog 29 #[.pointer (some ⟨Nb + 2, 0, none⟩), nhV y, .map (some Mb)] W fun e w' => e = .returned (.tuple #[]) ∧ (∃ v1' v2' v4', BdM w' w4.heap.size (Nb + 2) Nb (Nb + 1) (i + 1) (i + 1) b' v1' v2' v4') ∧ Mod (fun j => j = Nb + 2 ∨ j = Nb ∨ j = Nb + 1 ∨ w4.heap.size ≤ j) W w') := Lib.hid (fun W hbW => by
        have hn := HNN.out
        have hz := HSZ4.out
        have hh := HHI.out
        have hs := HSS.out
        have hM4 : Mod (fun j => j = Nb + 2 ∨ j = Nb ∨ j = Nb + 1 ∨ w4.heap.size ≤ j) w4 W := HM.out.trans (modB hbW)
        refine stRead_ok y x.kids[i] l1 h1' w2.heap.size w4.heap.size w4.heap.size (Nb + 2) Nb (Nb + 1) i i Mb Sa Bb Sc bi b' v1 v2 v4 W ((okNd_firm (okNd_firm okLf_firm)).calm q4 (Calm.of (Mod.of_below hbW) (fun j _ h2 h3 => by have := HM.out.size; omega))) (Lib.hid (HBM.out.keep hbW)) (Lib.hid (HRB.out.mod hM4 (fun j h1 h2 e => by omega))) (Lib.hid ?_) (Lib.hid ⟨by omega, Nat.le_refl _, hs.2.2.2.2.1, hs.2.2.2.2.2.1, fun j h1 h2 => by omega, fun j h1 h2 => by omega, hs.1, hs.2.1, hs.2.2.1, hs.2.2.2.1⟩) hst (by omega) (by omega) hyl
        have hc := HC4.out
        refine ⟨(hM4.cell (p := ⟨Sa, 0, none⟩) hs.2.2.2.2.1 ?_).trans hc.1, (hM4.cell (p := ⟨Sa, 1, none⟩) hs.2.2.2.2.1 ?_).trans hc.2.1, (hM4.cell (p := ⟨Sc, 0, none⟩) hs.2.2.2.2.2.1 ?_).trans hc.2.2.1, (hM4.cell (p := ⟨Sc, 1, none⟩) hs.2.2.2.2.2.1 ?_).trans hc.2.2.2⟩
        · show ¬ (Sa = Nb + 2 ∨ Sa = Nb ∨ Sa = Nb + 1 ∨ w4.heap.size ≤ Sa); omega
        · show ¬ (Sa = Nb + 2 ∨ Sa = Nb ∨ Sa = Nb + 1 ∨ w4.heap.size ≤ Sa); omega
        · show ¬ (Sc = Nb + 2 ∨ Sc = Nb ∨ Sc = Nb + 1 ∨ w4.heap.size ≤ Sc); omega
        · show ¬ (Sc = Nb + 2 ∨ Sc = Nb ∨ Sc = Nb + 1 ∨ w4.heap.size ≤ Sc); omega)
      obtain ⟨ykk, yna, ynn, ypo, ya, yln, yc⟩ := y
      rw [show nhV ⟨ykk, yna, ynn, ypo, ya, yln, yc⟩ = .agg #[.int .i64 ykk, .string yna, .int .i64 ynn, .int .i64 (ypo : Nat), .slice ya yln yc] from rfl] at HRD
      subst hA
      dsimp only at d0 d1 d2 d3 d4
      clear hx hl' hr' hkx q1 q2 q3 q4 hdrop hst hrn hyl
      go_upto_region 8 with (fail)
      obtain ⟨W1, hW1⟩ : ∃ W, W = wr.alloc (.cells #[.int .i64 ykk, .string yna, .int .i64 ynn, .int .i64 (ypo : Nat), .slice ya yln yc] 49) := ⟨_, rfl⟩
      obtain ⟨N, hN⟩ : ∃ N, N = wr.heap.size := ⟨_, rfl⟩
      have hb1 : Below wr.heap.size wr W1 := by rw [hW1]; exact (Below.refl _ _).alloc (Nat.le_refl _) _
      have y0 : W1.cell? ⟨N, 0, none⟩ = some (.int .i64 ykk) := by rw [hW1, hN]; go_simp
      have y1 : W1.cell? ⟨N, 1, none⟩ = some (.string yna) := by rw [hW1, hN]; go_simp
      have y2 : W1.cell? ⟨N, 2, none⟩ = some (.int .i64 ynn) := by rw [hW1, hN]; go_simp
      have y3 : W1.cell? ⟨N, 3, none⟩ = some (.int .i64 (ypo : Nat)) := by rw [hW1, hN]; go_simp
      have y4 : W1.cell? ⟨N, 4, none⟩ = some (.slice ya yln yc) := by rw [hW1, hN]; go_simp
      have hNl : N < W1.heap.size := by rw [hW1, hN]; simp
      have HB1 := Lib.hid hb1
      rw [← hW1, ← hN]
      clear hW1 hN hb1 d0 d1 d2 d3 d4 hbl
      go_wp2_with fail
      refine (HRD.out W1 HB1.out).mono ?_
      rintro e W2 ⟨rfl, ⟨v1', v2', v4', hbm⟩, hm2⟩
      have HBM2 := Lib.hid hbm
      have HM2 : Hid (Mod (fun j => j = Nb + 2 ∨ j = Nb ∨ j = Nb + 1 ∨ w4.heap.size ≤ j) w4 W2) := Lib.hid ((HM.out.trans (modB HB1.out)).trans hm2)
      have b8 : W2.cell? ⟨Nb + 2, 8, none⟩ = some (.slice none 0 0) := hbm.ow.cell (i := 8) (by omega)
      have hBl : Nb + 2 < W2.heap.size := hbm.ow.lt
      clear hbm hm2 y0 y1 y2 y3 y4 hNl HRD
      go_wp2_with fail
      go_roundg (hln - (i + 1))
      case measure => omega
      case rel => exact ⟨i + 1, b', v1', v2', v4', by go_num, by omega, by omega, HBM2, HM2, HRN⟩
    · have hltz : ¬ (i : Int) < (hln : Int) := by omega
      have HE : Hid (bi = bF) := Lib.hid (by
        have h := HRI.out
        rw [List.drop_of_length_le (by have := HXL.out; omega)] at h
        unfold runI at h
        injection h)
      obtain ⟨a1, c1, hv1⟩ := HBM.out.l1.shape
      obtain ⟨a2, c2, hv2⟩ := HBM.out.l2.shape
      obtain ⟨a4, c4, hv4⟩ := HBM.out.l4.shape
      obtain ⟨n1, hn1⟩ : ∃ n, n = bi.cons.length := ⟨_, rfl⟩
      obtain ⟨n2, hn2⟩ : ∃ n, n = bi.owns.length := ⟨_, rfl⟩
      obtain ⟨n4, hn4⟩ : ∃ n, n = bi.chgs.length := ⟨_, rfl⟩
      rw [← hn1] at hv1
      rw [← hn2] at hv2
      rw [← hn4] at hv4
      have HN124 : Hid (n1 = bi.cons.length ∧ n2 = bi.owns.length ∧ n4 = bi.chgs.length) := Lib.hid ⟨hn1, hn2, hn4⟩
      clear hn1 hn2 hn4
      subst hv1 hv2 hv4
      have b0 : wr.cell? ⟨Nb + 2, 0, none⟩ = some (.slice a1 n1 c1) := HBM.out.ow.cell (i := 0) (by omega)
      have b1 : wr.cell? ⟨Nb + 2, 1, none⟩ = some (.slice a2 n2 c2) := HBM.out.ow.cell (i := 1) (by omega)
      have b2 : wr.cell? ⟨Nb + 2, 2, none⟩ = some (.slice none 0 0) := HBM.out.ow.cell (i := 2) (by omega)
      have b3 : wr.cell? ⟨Nb + 2, 3, none⟩ = some (.slice a4 n4 c4) := HBM.out.ow.cell (i := 3) (by omega)
      have b4 : wr.cell? ⟨Nb + 2, 4, none⟩ = some (.slice none 0 0) := HBM.out.ow.cell (i := 4) (by omega)
      have b6 : wr.cell? ⟨Nb + 2, 6, none⟩ = some (.bool true) := by have h := HBM.out.ow.cell (i := 6) (by omega); rw [← HFD.out, ← HE.out]; exact h
      have b8 : wr.cell? ⟨Nb + 2, 8, none⟩ = some (.slice none 0 0) := HBM.out.ow.cell (i := 8) (by omega)
      have hBl : Nb + 2 < wr.heap.size := HBM.out.ow.lt
      have HSr := Lib.hid (HS4.out.mod HM.out (by have := HNN.out; have := HSZ4.out; omega))
      have z0 : wr.cell? ⟨X + 1, 0, none⟩ = some (.slice none 0 0) := HSr.out.cell (i := 0) (by omega)
      have z1 : wr.cell? ⟨X + 1, 1, none⟩ = some (.slice none 0 0) := HSr.out.cell (i := 1) (by omega)
      have z2 : wr.cell? ⟨X + 1, 2, none⟩ = some (.slice none 0 0) := HSr.out.cell (i := 2) (by omega)
      have z3 : wr.cell? ⟨X + 1, 3, none⟩ = some (.slice none 0 0) := HSr.out.cell (i := 3) (by omega)
      have z4 : wr.cell? ⟨X + 1, 4, none⟩ = some (.slice none 0 0) := HSr.out.cell (i := 4) (by omega)
      have f0 := HSr.out.frozen 0
      have f1 := HSr.out.frozen 1
      have f2 := HSr.out.frozen 2
      have f3 := HSr.out.frozen 3
      have f4 := HSr.out.frozen 4
      have hSl : X + 1 < wr.heap.size := HSr.out.lt
      go_wp2_with fail
      obtain ⟨wo, hwo⟩ : ∃ W, W = (((((wr.setCell ⟨X + 1, 0, none⟩ (.slice a1 n1 c1)).setCell ⟨X + 1, 1, none⟩ (.slice a2 n2 c2)).setCell ⟨X + 1, 2, none⟩ (.slice none 0 0)).setCell ⟨X + 1, 3, none⟩ (.slice a4 n4 c4)).setCell ⟨X + 1, 4, none⟩ (.slice none 0 0)) := ⟨_, rfl⟩
      have hoX : Own wo (X + 1) 28 5 (siF (.slice a1 n1 c1) (.slice a2 n2 c2) (.slice none 0 0) (.slice a4 n4 c4) (.slice none 0 0)) := by
        rw [hwo]
        refine (((((HSr.out.set 0 (.slice a1 n1 c1)).set 1 (.slice a2 n2 c2)).set 2 (.slice none 0 0)).set 3 (.slice a4 n4 c4)).set 4 (.slice none 0 0)).congr ?_
        intro i hi
        match i, hi with
        | 0, _ => rfl
        | 1, _ => rfl
        | 2, _ => rfl
        | 3, _ => rfl
        | 4, _ => rfl
      have hmo : Mod (fun j => j = X + 1) wr wo := by
        rw [hwo]
        refine Mod.setCell ?_ (.inl ?_) _
        rotate_left
        · rfl
        refine Mod.setCell ?_ (.inl ?_) _
        rotate_left
        · rfl
        refine Mod.setCell ?_ (.inl ?_) _
        rotate_left
        · rfl
        refine Mod.setCell ?_ (.inl ?_) _
        rotate_left
        · rfl
        refine Mod.setCell ?_ (.inl ?_) _
        rotate_left
        · rfl
        exact Mod.refl _ wr
      have hMo : Mod (fun j => w.heap.size ≤ j) w wo := by
        have hn := HNN.out
        have hz := HSZ4.out
        exact (((Mod.of_below HB4.out).trans (HM.out.mono (fun k _ e => by omega))).trans (hmo.mono (fun k _ e => by omega)))
      rw [← hwo]
      refine bodyPost_ret (results_ctT (a := 2) (t := 3) (ty := 28) (b := X + 1) (by kernel_rfl) rfl (load_site5 hoX)) rfl ?_
      have hn := HNN.out
      have hz := HSZ4.out
      have hln := HBM.out.ln
      have hne : ∀ {α : Type} {t : TypeId} {sz : Nat} {enc : α → List Value} {v : Value} {xs : List α}, OwnR t sz enc wr w4.heap.size v xs → OwnR t sz enc wo w4.heap.size v xs := by
        intro α t sz enc v xs h
        exact h.mod hmo (fun k hk e => by have := (World.ownsRow.lt h k hk).1; omega)
      obtain ⟨b1', d1, e1, r1⟩ := OwnR.rd (enc := encCon) (fun _ => rfl) (hne HBM.out.l1)
      obtain ⟨b2', d2, e2, r2⟩ := OwnR.rd (enc := encS) (fun _ => rfl) (hne HBM.out.l2)
      obtain ⟨b4', d4, e4, r4⟩ := OwnR.rd (enc := encChg) (fun _ => rfl) (hne HBM.out.l4)
      injection e1 with e1 _ _
      injection e2 with e2 _ _
      injection e4 with e4 _ _
      subst e1 e2 e4
      obtain ⟨k1, k2, k4⟩ := HN124.out
      have hE := HE.out
      have hNZ := HNZ.out
      rw [← hE] at hNZ ⊢
      refine ⟨a1, c1, a2, c2, a4, c4, ?_, ?_, ?_⟩
      · rw [k1, k2, k4]; rfl
      · exact ⟨r1, r2, Rd.nil, r4, Rd.nil, rfl, rfl, rfl, rfl, rfl, by show bi.cons.length ≤ _; omega, by show bi.owns.length ≤ _; omega, by omega, by show bi.chgs.length ≤ _; omega, by omega, hNZ⟩
      · exact hMo.below (Nat.le_refl _) (fun k _ h => h)
end Go.Proofs.YtpkonifeieepfaaGreat
