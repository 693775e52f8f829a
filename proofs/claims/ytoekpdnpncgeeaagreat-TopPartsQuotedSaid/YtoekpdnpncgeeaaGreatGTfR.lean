/-
Several texts in one: TfR, TfS, TfT.
-/
import Derived.Test.YtoekpdnpncgeeaaGreatGDy
import Derived.Test.YtoekpdnpncgeeaaGreatCMapV
import Derived.Test.YtoekpdnpncgeeaaGreatGBase
import Derived.Test.YtoekpdnpncgeeaaGreatGPsX
import Derived.StillTailTactics
import Derived.KernelRfl
/-
tariff.Build: the reader of an article's text (parts).
-/
namespace Go.Proofs.YtoekpdnpncgeeaaGreat
open Go.RowKit Go.Maps
set_option linter.unusedVariables false
set_option linter.unusedSimpArgs false
def sLt (s : ByteArray) : Lit := .string s.data.toList
theorem sLt_ne {a b : ByteArray} (h : a.data.toList ≠ b.data.toList) : sLt a ≠ sLt b := fun e => h (by injection e)
noncomputable def dropF (f : Lit → Option Value) (kl : Lit) : Lit → Option Value := fun x => @ite _ (x = kl) (Classical.propDecidable _) none (f x)
theorem dropF_same {f : Lit → Option Value} {kl : Lit} : dropF f kl kl = none := by unfold dropF; exact if_pos rfl
theorem dropF_other {f : Lit → Option Value} {kl x : Lit} (h : x ≠ kl) : dropF f kl x = f x := by unfold dropF; exact if_neg h
theorem ValM.drop {P : Program} {t k e : TypeId} {w : World} {b n : Nat} {f : Lit → Option Value} (h : ValM P k w b n f) (K : Keyed P k) (ht : P.underlying t = some (.map k e)) {key : Value} {kl : Lit} (hkey : keyOf P k key = some kl) (ty : TypeId) :
    ∃ w', (Builtin.delete_ #[t, k] ty #[.map (some b), key]).run P w = .ok (.tuple #[]) w' ∧ Hid (ValM P k w' b n (dropF f kl)) ∧ Hid (Mod (fun q => q = b) w w') := by
  obtain ⟨D, h1, h2⟩ := h
  obtain ⟨w', hrun, ho, ht'⟩ := h1.drop K ht hkey ty
  have hg := ht'.grown
  refine ⟨w', hrun, Lib.hid ⟨_, ho, fun kl' hk' => ?_⟩, Lib.hid ⟨hg.os, hg.tape, hg.output, hg.size, fun q hq hne => hg.block q hq (fun e => hne (by injection e))⟩⟩
  by_cases e1 : kl' = kl
  · subst e1
    rw [dropF_same]
    exact ⟨has_del_same, fun z => atKey_del_same _⟩
  · rw [dropF_other e1]
    exact ⟨(has_del_other e1).trans (h2 kl' hk').1, fun z => (atKey_del_other e1 _).trans ((h2 kl' hk').2 z)⟩
def rdF (k p u f : Int) (v : Value) (g : Bool) (i : Nat) : Value := ([.int .i64 k, .int .i64 7, .int .i64 0, .int .i64 1440, .int .i64 p, .int .i64 u, .int .i64 f, v, .bool g] : List Value)[i]?.getD undef
/-- The values behind the first one. -/
def nxtV (b off M : Nat) : Value := .slice (some ⟨b, if M = 1 then off else off + 5, none⟩) (M - 1) (M - 1)
theorem slice_run (b off M c : Nat) (h1 : 1 ≤ M) (hc : M ≤ c) (w : World) : (Instr.slice 54 (.slice (some ⟨b, off, none⟩) M c) (some (.int .i64 1)) (some (.int .i64 (M : Int))) (some (.int .i64 (M : Int)))).run Tryz.prog w = .ok (nxtV b off M) w := by
  have e1 : (1 : Int) ≤ (M : Int) := by omega
  have e2 : (M : Int) ≤ (c : Int) := by omega
  have e3 : (0 : Int) ≤ (M : Int) := by omega
  unfold Instr.slice Instr.sliceBounds Instr.sliceBound
  go_simp
  unfold nxtV
  split <;> rfl
set_option maxRecDepth 100000 in
set_option maxHeartbeats 8000000 in
theorem tfNumber_ok (P b off M c : Nat) (k p u f z : Int) (w : World) (HP : Hid (Own w P 152 9 (rdF k p u f (.slice (some ⟨b, off, none⟩) M c) true))) (hM : 1 ≤ M) (hMc : M ≤ c) (hcl : M ≤ 100000) (c0 : w.cell? ⟨b, off, none⟩ = some (.int .i64 6)) (c2 : w.cell? ⟨b, off + 2, none⟩ = some (.int .i64 z)) :
    Calls Tryz.prog 102 #[.pointer (some ⟨P, 0, none⟩)] w fun e w' => e = .returned (.int .i64 z) ∧ Hid (Own w' P 152 9 (rdF k p u f (nxtV b off M) true)) ∧ Hid (Mod (fun j => j = P) w w') := by
  have p7 : w.cell? ⟨P, 7, none⟩ = some (.slice (some ⟨b, off, none⟩) M c) := HP.out.cell (i := 7) (by omega)
  have f7 := HP.out.frozen 7
  have hPl : P < w.heap.size := HP.out.lt
  have hbl : b < w.heap.size := World.block_lt_of_cell? _ _ c0
  have hM0 : ((M : Int) == 0) = false := by simp; omega
  have hMz : ¬ (M : Int) = 0 := by omega
  have hM1 : (0 : Int) < (M : Int) := by omega
  have hM2 : 0 < M := by omega
  obtain ⟨A, hA⟩ : ∃ A, A = (if M = 1 then off else off + 5) := ⟨_, rfl⟩
  obtain ⟨m, hm⟩ : ∃ m, m = M - 1 := ⟨_, rfl⟩
  have HNX : Hid (nxtV b off M = .slice (some ⟨b, A, none⟩) m m) := Lib.hid (by rw [hA, hm]; rfl)
  have hs : (Instr.slice 54 (.slice (some ⟨b, off, none⟩) M c) (some (.int .i64 1)) (some (.int .i64 (M : Int))) (some (.int .i64 (M : Int)))).run Tryz.prog w.drew = .ok (.slice (some ⟨b, A, none⟩) m m) w.drew := by rw [← HNX.out]; exact slice_run b off M c hM hMc w.drew
  clear hA hm
  have p7d : w.drew.cell? ⟨P, 7, none⟩ = some (.slice (some ⟨b, off, none⟩) M c) := p7
  go_enter Tryz.func102, Tryz.ntmps102
  go_upto_region 5 with (fail)
  go_still_tail 18, (by kernel_rfl)
  change wpList _ _ _ _ _ w.drew
  go_wp2_with fail
  go_ret
  refine ⟨rfl, Lib.hid ?_, Lib.hid ?_⟩
  · rw [HNX.out]
    exact ((HP.out.drew.set 7 (.slice (some ⟨b, A, none⟩) m m)).congr (fun i hi => by match i, hi with | 0, _ => rfl | 1, _ => rfl | 2, _ => rfl | 3, _ => rfl | 4, _ => rfl | 5, _ => rfl | 6, _ => rfl | 7, _ => rfl | 8, _ => rfl))
  · exact ((show Mod (fun j => j = P) w w from Mod.refl _ w).drew).setCell (p := ⟨P, 7, none⟩) (.inl rfl) _
/-- The value at the front is a word. -/
def WordAt (w : World) (b off : Nat) (tx : ByteArray) : Prop := w.cell? ⟨b, off, none⟩ = some (.int .i64 5) ∧ w.cell? ⟨b, off + 1, none⟩ = some (.string tx)
set_option maxRecDepth 100000 in
set_option maxHeartbeats 8000000 in
theorem tfWord_ok (P b off M c : Nat) (k p u f : Int) (tx : ByteArray) (w : World) (HP : Hid (Own w P 152 9 (rdF k p u f (.slice (some ⟨b, off, none⟩) M c) true))) (hM : 1 ≤ M) (hMc : M ≤ c) (hcl : M ≤ 100000) (c0 : w.cell? ⟨b, off, none⟩ = some (.int .i64 5)) (c2 : w.cell? ⟨b, off + 1, none⟩ = some (.string tx)) :
    Calls Tryz.prog 104 #[.pointer (some ⟨P, 0, none⟩)] w fun e w' => e = .returned (.string tx) ∧ w' = w := by
  have p7 : w.cell? ⟨P, 7, none⟩ = some (.slice (some ⟨b, off, none⟩) M c) := HP.out.cell (i := 7) (by omega)
  have hPl : P < w.heap.size := HP.out.lt
  have hbl : b < w.heap.size := World.block_lt_of_cell? _ _ c0
  have hM0 : ((M : Int) == 0) = false := by simp; omega
  have hMz : ¬ (M : Int) = 0 := by omega
  have hM1 : (0 : Int) < (M : Int) := by omega
  have hM2 : 0 < M := by omega
  go_enter Tryz.func104, Tryz.ntmps104
  go_wp2_with fail
  go_ret
  exact ⟨rfl, rfl⟩
set_option maxRecDepth 100000 in
theorem tfKindOf_time (w : World) : Calls Tryz.prog 101 #[.string ⟨#[116, 105, 109, 101]⟩] w fun e w' => e = .returned (.int .i64 3) ∧ w' = w := by
  go_enter Tryz.func101, Tryz.ntmps101
  go_wp2_with fail
  go_ret
  exact ⟨rfl, rfl⟩
theorem kSt : Keyed Tryz.prog 9 := string_keyed Tryz.underlying9
theorem keyS {s : ByteArray} (h : s.size ≤ 8000) : keyOf Tryz.prog 9 (.string s) = some (sLt s) := WideMaps.keyOf_string_mk Tryz.underlying9 (by unfold maxLen; omega)
/-- The clauses of an article of time: a map that the call makes. -/
def ClM (w : World) (M Y : Nat) (b1 b2 : Bool) : Prop := ∃ n f, ValM Tryz.prog 9 w M n f ∧ n ≤ 100 ∧ (b1 = true → f (sLt ⟨#[112, 101, 114]⟩) = some (.func (.func 123) #[] #[.pointer (some ⟨Y, 0, none⟩)])) ∧ (b2 = true → f (sLt ⟨#[102, 114, 101, 101]⟩) = some (.func (.func 124) #[] #[.pointer (some ⟨Y, 0, none⟩)]))
theorem ClM.mod {M0 : Nat → Prop} {w w' : World} {M Y : Nat} {b1 b2 : Bool} (h : ClM w M Y b1 b2) (hm : Mod M0 w w') (hM : ¬ M0 M) : ClM w' M Y b1 b2 := by
  obtain ⟨n, f, h1, h2⟩ := h
  exact ⟨n, f, h1.mod hm hM, h2⟩
theorem ClM.keep {w w' : World} {M Y : Nat} {b1 b2 : Bool} (h : ClM w M Y b1 b2) (hb : Below w.heap.size w w') : ClM w' M Y b1 b2 := by
  obtain ⟨n, f, h1, h2⟩ := h
  exact ⟨n, f, h1.keep hb, h2⟩
theorem ClM.lt {w : World} {M Y : Nat} {b1 b2 : Bool} (h : ClM w M Y b1 b2) : M < w.heap.size := by
  obtain ⟨n, f, h1, h2⟩ := h
  exact h1.lt
set_option maxRecDepth 100000 in
set_option maxHeartbeats 8000000 in
theorem tfClauses_ok (P : Nat) (w : World) (hP : P < w.heap.size) : Calls Tryz.prog 103 #[.pointer (some ⟨P, 0, none⟩), .int .i64 3] w fun e w' => ∃ M Y, e = .returned (.map (some M)) ∧ Hid (ClM w' M Y true true) ∧ Hid (w'.cell? ⟨Y, 0, none⟩ = some (.pointer (some ⟨P, 0, none⟩)) ∧ w.heap.size ≤ Y ∧ w.heap.size ≤ M ∧ M ≠ Y) ∧ Hid (Below w.heap.size w w') := by
  obtain ⟨Y, hY⟩ : ∃ Y, Y = w.heap.size := ⟨_, rfl⟩
  obtain ⟨W0, hW0⟩ : ∃ W, W = w.alloc (.cells #[.pointer (some ⟨P, 0, none⟩)] 150) := ⟨_, rfl⟩
  have hb0 : Below w.heap.size w W0 := by rw [hW0]; exact (Below.refl _ _).alloc (Nat.le_refl _) _
  have HY0 : Hid (Own W0 Y 150 1 (fun _ => .pointer (some ⟨P, 0, none⟩))) := Lib.hid (by rw [hW0, hY]; exact Own.one _ _ _)
  obtain ⟨W1, hW1⟩ : ∃ W, W = W0.alloc (.map #[] 0) := ⟨_, rfl⟩
  obtain ⟨M, hM⟩ : ∃ M, M = W0.heap.size := ⟨_, rfl⟩
  have hb1 : Below W0.heap.size W0 W1 := by rw [hW1]; exact (Below.refl _ _).alloc (Nat.le_refl _) _
  have HV : Hid (ValM Tryz.prog 9 W1 M 0 (fun _ => none)) := Lib.hid (by rw [hW1, hM]; exact ValM.made _)
  have HY1 := Lib.hid (HY0.out.keep hb1 HY0.out.lt)
  have HMY : Hid (w.heap.size ≤ Y ∧ w.heap.size ≤ M ∧ M ≠ Y) := Lib.hid (by have h1 := HY0.out.lt; have h2 := hb0.size; omega)
  have HB1 : Hid (Below w.heap.size w W1) := Lib.hid (below_then hb0 hb1)
  have HT : Hid (∀ W, Calls Tryz.prog 69 #[.int .i64 3] W fun e w' => e = .returned (.bool true) ∧ w' = W) := Lib.hid (fun W => tfTime_any 3 W)
  have HWH : Hid (∀ W, Calls Tryz.prog 68 #[.int .i64 3] W fun e w' => e = .returned (.bool false) ∧ w' = W) := Lib.hid (fun W => tfWhole_any 3 W)
  have put : ∀ (W : World) (n : Nat) (f : Lit → Option Value) (s : ByteArray) (v : Value), ValM Tryz.prog 9 W M n f → n ≤ 90 → s.size ≤ 8000 → ∃ w', (Instr.mapUpdate 153 (.map (some M)) (.string s) v).run Tryz.prog W = .ok () w' ∧ Hid (ValM Tryz.prog 9 w' M (n + 1) (putF f (sLt s) v)) ∧ Hid (Mod (fun q => q = M) W w') := fun W n f s v h hn hs => h.put kSt Tryz.underlying153 (by omega) (keyS hs) (by trivial)
  have hmk : ∀ W : World, (Instr.makeMap 153 none).run Tryz.prog W = .ok (.map (some W.heap.size)) (W.alloc (.map #[] 0)) := fun W => run_makeMap 153 W
  have HW0 := Lib.hid hW0
  have HW1 := Lib.hid hW1
  have HYE := Lib.hid hY
  have HME := Lib.hid hM
  obtain ⟨W2, hu2, HV2, HM2⟩ := put W1 0 _ ⟨#[112, 101, 114]⟩ (.func (.func 123) #[] #[.pointer (some ⟨Y, 0, none⟩)]) HV.out (by omega) (by decide)
  obtain ⟨W3, hu3, HV3, HM3⟩ := put W2 _ _ ⟨#[102, 114, 101, 101]⟩ (.func (.func 124) #[] #[.pointer (some ⟨Y, 0, none⟩)]) HV2.out (by omega) (by decide)
  obtain ⟨W4, hu4, HV4, HM4⟩ := put W3 _ _ ⟨#[111, 110]⟩ (.func (.func 125) #[] #[.pointer (some ⟨Y, 0, none⟩)]) HV3.out (by omega) (by decide)
  obtain ⟨W5, hu5, HV5, HM5⟩ := put W4 _ _ ⟨#[98, 101, 116, 119, 101, 101, 110]⟩ (.func (.func 127) #[] #[.pointer (some ⟨Y, 0, none⟩)]) HV4.out (by omega) (by decide)
  clear hb0 hb1 hW0 hW1 hY hM put
  go_enter Tryz.func103, Tryz.ntmps103
  go_upto_region 1 with (fail)
  rw [← HW0.out, ← HYE.out]
  go_upto_region 2 with (fail)
  rw [← HW1.out, ← HME.out]
  clear HW0 HW1 HYE HME
  go_wp2_with fail
  refine (HT.out W1).mono ?_
  rintro e w1 ⟨rfl, hw1⟩
  rw [hw1]
  clear hw1 w1
  go_wp2_with fail
  refine (HWH.out W3).mono ?_
  rintro e w1 ⟨rfl, hw1⟩
  rw [hw1]
  clear hw1 w1
  go_wp2_with fail
  go_ret
  have HMM : Mod (fun q => q = M) W1 W5 := ((HM2.out.trans HM3.out).trans HM4.out).trans HM5.out
  refine ⟨M, Y, rfl, Lib.hid ⟨_, _, HV5.out, by omega, fun _ => ?_, fun _ => ?_⟩, Lib.hid ⟨(HY1.out.mod HMM (fun e => HMY.out.2.2 e.symm)).cell (i := 0) (by omega), HMY.out⟩, Lib.hid ?_⟩
  · rw [putF_other (sLt_ne (by decide)), putF_other (sLt_ne (by decide)), putF_other (sLt_ne (by decide)), putF_same]
  · rw [putF_other (sLt_ne (by decide)), putF_other (sLt_ne (by decide)), putF_same]
  · exact ((show Mod (fun q => q = M) w W1 from modB HB1.out).trans HMM).below (Nat.le_refl _) (fun j h1 h2 => by have := HMY.out; omega)
end Go.Proofs.YtoekpdnpncgeeaaGreat
/-
tariff.Build: the text of an article is read.
-/
namespace Go.Proofs.YtoekpdnpncgeeaaGreat
open Go.RowKit Go.Maps
set_option linter.unusedVariables false
set_option linter.unusedSimpArgs false
set_option maxRecDepth 100000 in
set_option maxHeartbeats 8000000 in
theorem tfClauses1_ok (P Y b off M c : Nat) (k p u f z : Int) (w : World) (HP : Hid (Own w P 152 9 (rdF k p u f (.slice (some ⟨b, off, none⟩) M c) true))) (hM : 1 ≤ M) (hMc : M ≤ c) (hcl : M ≤ 100000) (c0 : w.cell? ⟨b, off, none⟩ = some (.int .i64 6)) (c2 : w.cell? ⟨b, off + 2, none⟩ = some (.int .i64 z)) (hY : w.cell? ⟨Y, 0, none⟩ = some (.pointer (some ⟨P, 0, none⟩))) (hYP : Y ≠ P) :
    Calls Tryz.prog 123 #[.pointer (some ⟨Y, 0, none⟩)] w fun e w' => e = .returned (.tuple #[]) ∧ Hid (Own w' P 152 9 (rdF k p z f (nxtV b off M) true)) ∧ Hid (Mod (fun j => j = P) w w') := by
  have hYl : Y < w.heap.size := World.block_lt_of_cell? _ _ hY
  go_enter Tryz.func123, Tryz.ntmps123
  have hY0 : w.drew.cell? ⟨Y, 0, none⟩ = some (.pointer (some ⟨P, 0, none⟩)) := hY
  have hYl0 : Y < w.drew.heap.size := hYl
  go_wp2_with fail
  refine region_z (S := fun w' => w'.cell? ⟨Y, 0, none⟩ = some (.pointer (some ⟨P, 0, none⟩)) ∧ P < w'.heap.size) [6] (by kernel_rfl) ⟨hY, HP.out.lt⟩ (fun hHeld => ?_)
  refine wpAnyZ_take (i := 0) (v := .pointer (some ⟨P, 0, none⟩)) [3, 4, 5, 6] rfl (by kernel_rfl) (by kernel_rfl) (by kernel_rfl) (by kernel_rfl) (fun _ _ _ h => h) (Or.inl ⟨by kernel_rfl, fun w' hSw => ?_⟩) hHeld ?_
  · have s0 := hSw.1
    have s1 := hSw.2
    clear hHeld hSw
    go_simp
  simp only [Act.put, List.getElem_toArray, List.getElem_cons_zero, List.getElem_cons_succ, List.setIfInBounds_toArray, List.set_cons_zero, List.set_cons_succ]
  refine wpAnyZ_take (i := 1) (v := .pointer (some ⟨P, 0, none⟩)) [2, 3, 4, 5, 6] rfl (by kernel_rfl) (by kernel_rfl) (by kernel_rfl) (by kernel_rfl) (fun _ _ _ h => h) (Or.inl ⟨by kernel_rfl, fun w' hSw => ?_⟩) hHeld ?_
  · have s0 := hSw.1
    have s1 := hSw.2
    clear hHeld hSw
    go_simp
  simp only [Act.put, List.getElem_toArray, List.getElem_cons_zero, List.getElem_cons_succ, List.setIfInBounds_toArray, List.set_cons_zero, List.set_cons_succ]
  refine wpAnyZ_one (i := 2) (by kernel_rfl) rfl (fun K' hK => ?_)
  go_simp
  refine (tfNumber_ok P b off M c k p u f z w.drew (Lib.hid HP.out.drew) hM hMc hcl c0 c2).mono ?_
  rintro e w1 ⟨rfl, HP1, HM1⟩
  have HM1 : Hid (Mod (fun j => j = P) w w1) := Lib.hid ⟨HM1.out.os, HM1.out.tape, HM1.out.output, HM1.out.size, HM1.out.block⟩
  have y1 : w1.cell? ⟨Y, 0, none⟩ = some (.pointer (some ⟨P, 0, none⟩)) ∧ P < w1.heap.size := ⟨(HM1.out.cell (p := ⟨Y, 0, none⟩) (World.block_lt_of_cell? _ _ hY) (by show Y ≠ P; exact hYP)).trans hY, HP1.out.lt⟩
  refine hK.out _ _ ?_ (fun hHeld' => ?_)
  · exact y1
  clear hK K' hHeld
  have hHeld := hHeld'
  clear hHeld'
  try simp only [Act.put, List.getElem_toArray, List.getElem_cons_zero, List.getElem_cons_succ, List.setIfInBounds_toArray, List.set_cons_zero, List.set_cons_succ]
  refine wpAnyZ_one (i := 3) (by kernel_rfl) rfl (fun K' hK => ?_)
  have hPl := HP1.out.lt
  go_simp
  refine hK.out _ _ ?_ (fun hHeld' => ?_)
  · exact y1
  clear hK K' hHeld
  have hHeld := hHeld'
  clear hHeld'
  try simp only [Act.put, List.getElem_toArray, List.getElem_cons_zero, List.getElem_cons_succ, List.setIfInBounds_toArray, List.set_cons_zero, List.set_cons_succ]
  refine wpAnyZ_one (i := 4) (by kernel_rfl) rfl (fun K' hK => ?_)
  have hPl := HP1.out.lt
  go_simp
  refine hK.out _ _ ?_ (fun hHeld' => ?_)
  · exact y1
  clear hK K' hHeld
  have hHeld := hHeld'
  clear hHeld'
  try simp only [Act.put, List.getElem_toArray, List.getElem_cons_zero, List.getElem_cons_succ, List.setIfInBounds_toArray, List.set_cons_zero, List.set_cons_succ]
  refine wpAnyZ_one (i := 5) (by kernel_rfl) rfl (fun K' hK => ?_)
  have hPl := HP1.out.lt
  go_simp
  refine hK.out _ _ ?_ (fun hHeld' => ?_)
  · exact y1
  clear hK K' hHeld
  have hHeld := hHeld'
  clear hHeld'
  try simp only [Act.put, List.getElem_toArray, List.getElem_cons_zero, List.getElem_cons_succ, List.setIfInBounds_toArray, List.set_cons_zero, List.set_cons_succ]
  have fz := HP1.out.frozen 5
  have z5 := HP1.out.cell (i := 5) (by omega)
  have hPl := HP1.out.lt
  refine wpAnyZ_last (i := 6) (by kernel_rfl) rfl (by kernel_rfl) (fun K' hK => ?_)
  go_simp
  refine hK.out _ _ ?_
  clear hK K'
  try simp only [Act.put, List.getElem_toArray, List.getElem_cons_zero, List.getElem_cons_succ, List.setIfInBounds_toArray, List.set_cons_zero, List.set_cons_succ]
  refine wpAnyZ_done (by kernel_rfl) ?_ _
  go_wp2_with fail
  go_end0
  refine ⟨rfl, Lib.hid ((HP1.out.set 5 (.int .i64 z)).congr (fun i hi => by match i, hi with | 0, _ => rfl | 1, _ => rfl | 2, _ => rfl | 3, _ => rfl | 4, _ => rfl | 5, _ => rfl | 6, _ => rfl | 7, _ => rfl | 8, _ => rfl)), Lib.hid (HM1.out.setCell (p := ⟨P, 5, none⟩) (.inl rfl) _)⟩
set_option maxRecDepth 100000 in
set_option maxHeartbeats 8000000 in
theorem tfClauses2_ok (P Y b off M c : Nat) (k p u f z : Int) (w : World) (HP : Hid (Own w P 152 9 (rdF k p u f (.slice (some ⟨b, off, none⟩) M c) true))) (hM : 1 ≤ M) (hMc : M ≤ c) (hcl : M ≤ 100000) (c0 : w.cell? ⟨b, off, none⟩ = some (.int .i64 6)) (c2 : w.cell? ⟨b, off + 2, none⟩ = some (.int .i64 z)) (hY : w.cell? ⟨Y, 0, none⟩ = some (.pointer (some ⟨P, 0, none⟩))) (hYP : Y ≠ P) :
    Calls Tryz.prog 124 #[.pointer (some ⟨Y, 0, none⟩)] w fun e w' => e = .returned (.tuple #[]) ∧ Hid (Own w' P 152 9 (rdF k p u z (nxtV b off M) true)) ∧ Hid (Mod (fun j => j = P) w w') := by
  have hYl : Y < w.heap.size := World.block_lt_of_cell? _ _ hY
  go_enter Tryz.func124, Tryz.ntmps124
  have hY0 : w.drew.cell? ⟨Y, 0, none⟩ = some (.pointer (some ⟨P, 0, none⟩)) := hY
  have hYl0 : Y < w.drew.heap.size := hYl
  go_wp2_with fail
  refine region_z (S := fun w' => w'.cell? ⟨Y, 0, none⟩ = some (.pointer (some ⟨P, 0, none⟩)) ∧ P < w'.heap.size) [6] (by kernel_rfl) ⟨hY, HP.out.lt⟩ (fun hHeld => ?_)
  refine wpAnyZ_take (i := 0) (v := .pointer (some ⟨P, 0, none⟩)) [3, 4, 5, 6] rfl (by kernel_rfl) (by kernel_rfl) (by kernel_rfl) (by kernel_rfl) (fun _ _ _ h => h) (Or.inl ⟨by kernel_rfl, fun w' hSw => ?_⟩) hHeld ?_
  · have s0 := hSw.1
    have s1 := hSw.2
    clear hHeld hSw
    go_simp
  simp only [Act.put, List.getElem_toArray, List.getElem_cons_zero, List.getElem_cons_succ, List.setIfInBounds_toArray, List.set_cons_zero, List.set_cons_succ]
  refine wpAnyZ_take (i := 1) (v := .pointer (some ⟨P, 0, none⟩)) [2, 3, 4, 5, 6] rfl (by kernel_rfl) (by kernel_rfl) (by kernel_rfl) (by kernel_rfl) (fun _ _ _ h => h) (Or.inl ⟨by kernel_rfl, fun w' hSw => ?_⟩) hHeld ?_
  · have s0 := hSw.1
    have s1 := hSw.2
    clear hHeld hSw
    go_simp
  simp only [Act.put, List.getElem_toArray, List.getElem_cons_zero, List.getElem_cons_succ, List.setIfInBounds_toArray, List.set_cons_zero, List.set_cons_succ]
  refine wpAnyZ_one (i := 2) (by kernel_rfl) rfl (fun K' hK => ?_)
  go_simp
  refine (tfNumber_ok P b off M c k p u f z w.drew (Lib.hid HP.out.drew) hM hMc hcl c0 c2).mono ?_
  rintro e w1 ⟨rfl, HP1, HM1⟩
  have HM1 : Hid (Mod (fun j => j = P) w w1) := Lib.hid ⟨HM1.out.os, HM1.out.tape, HM1.out.output, HM1.out.size, HM1.out.block⟩
  have y1 : w1.cell? ⟨Y, 0, none⟩ = some (.pointer (some ⟨P, 0, none⟩)) ∧ P < w1.heap.size := ⟨(HM1.out.cell (p := ⟨Y, 0, none⟩) (World.block_lt_of_cell? _ _ hY) (by show Y ≠ P; exact hYP)).trans hY, HP1.out.lt⟩
  refine hK.out _ _ ?_ (fun hHeld' => ?_)
  · exact y1
  clear hK K' hHeld
  have hHeld := hHeld'
  clear hHeld'
  try simp only [Act.put, List.getElem_toArray, List.getElem_cons_zero, List.getElem_cons_succ, List.setIfInBounds_toArray, List.set_cons_zero, List.set_cons_succ]
  refine wpAnyZ_one (i := 3) (by kernel_rfl) rfl (fun K' hK => ?_)
  have hPl := HP1.out.lt
  go_simp
  refine hK.out _ _ ?_ (fun hHeld' => ?_)
  · exact y1
  clear hK K' hHeld
  have hHeld := hHeld'
  clear hHeld'
  try simp only [Act.put, List.getElem_toArray, List.getElem_cons_zero, List.getElem_cons_succ, List.setIfInBounds_toArray, List.set_cons_zero, List.set_cons_succ]
  refine wpAnyZ_one (i := 4) (by kernel_rfl) rfl (fun K' hK => ?_)
  have hPl := HP1.out.lt
  go_simp
  refine hK.out _ _ ?_ (fun hHeld' => ?_)
  · exact y1
  clear hK K' hHeld
  have hHeld := hHeld'
  clear hHeld'
  try simp only [Act.put, List.getElem_toArray, List.getElem_cons_zero, List.getElem_cons_succ, List.setIfInBounds_toArray, List.set_cons_zero, List.set_cons_succ]
  refine wpAnyZ_one (i := 5) (by kernel_rfl) rfl (fun K' hK => ?_)
  have hPl := HP1.out.lt
  go_simp
  refine hK.out _ _ ?_ (fun hHeld' => ?_)
  · exact y1
  clear hK K' hHeld
  have hHeld := hHeld'
  clear hHeld'
  try simp only [Act.put, List.getElem_toArray, List.getElem_cons_zero, List.getElem_cons_succ, List.setIfInBounds_toArray, List.set_cons_zero, List.set_cons_succ]
  have fz := HP1.out.frozen 6
  have z5 := HP1.out.cell (i := 6) (by omega)
  have hPl := HP1.out.lt
  refine wpAnyZ_last (i := 6) (by kernel_rfl) rfl (by kernel_rfl) (fun K' hK => ?_)
  go_simp
  refine hK.out _ _ ?_
  clear hK K'
  try simp only [Act.put, List.getElem_toArray, List.getElem_cons_zero, List.getElem_cons_succ, List.setIfInBounds_toArray, List.set_cons_zero, List.set_cons_succ]
  refine wpAnyZ_done (by kernel_rfl) ?_ _
  go_wp2_with fail
  go_end0
  refine ⟨rfl, Lib.hid ((HP1.out.set 6 (.int .i64 z)).congr (fun i hi => by match i, hi with | 0, _ => rfl | 1, _ => rfl | 2, _ => rfl | 3, _ => rfl | 4, _ => rfl | 5, _ => rfl | 6, _ => rfl | 7, _ => rfl | 8, _ => rfl)), Lib.hid (HM1.out.setCell (p := ⟨P, 6, none⟩) (.inl rfl) _)⟩
end Go.Proofs.YtoekpdnpncgeeaaGreat
/-
tariff.Build: an article is read.
-/
namespace Go.Proofs.YtoekpdnpncgeeaaGreat
open Go.RowKit Go.Maps
set_option linter.unusedVariables false
set_option linter.unusedSimpArgs false
/-- The values of the article, in block b. -/
structure KvM (w : World) (b o0 o1 o2 o3 o4 : Nat) : Prop where
  a0 : w.cell? ⟨b, o0, none⟩ = some (.int .i64 6)
  a2 : w.cell? ⟨b, o0 + 2, none⟩ = some (.int .i64 100)
  b0 : w.cell? ⟨b, o1, none⟩ = some (.int .i64 5)
  b1 : w.cell? ⟨b, o1 + 1, none⟩ = some (.string ⟨#[112, 101, 114]⟩)
  c0 : w.cell? ⟨b, o2, none⟩ = some (.int .i64 6)
  c2 : w.cell? ⟨b, o2 + 2, none⟩ = some (.int .i64 1)
  d0 : w.cell? ⟨b, o3, none⟩ = some (.int .i64 5)
  d1 : w.cell? ⟨b, o3 + 1, none⟩ = some (.string ⟨#[102, 114, 101, 101]⟩)
  e0 : w.cell? ⟨b, o4, none⟩ = some (.int .i64 6)
  e2 : w.cell? ⟨b, o4 + 2, none⟩ = some (.int .i64 10)
theorem KvM.mod {M : Nat → Prop} {w w' : World} {b o0 o1 o2 o3 o4 : Nat} (h : KvM w b o0 o1 o2 o3 o4) (hm : Mod M w w') (hM : ¬ M b) : KvM w' b o0 o1 o2 o3 o4 := by
  have hb : b < w.heap.size := World.block_lt_of_cell? _ _ h.a0
  have g : ∀ i v, w.cell? ⟨b, i, none⟩ = some v → w'.cell? ⟨b, i, none⟩ = some v := fun i v hv => (hm.cell (p := ⟨b, i, none⟩) hb hM).trans hv
  exact ⟨g _ _ h.a0, g _ _ h.a2, g _ _ h.b0, g _ _ h.b1, g _ _ h.c0, g _ _ h.c2, g _ _ h.d0, g _ _ h.d1, g _ _ h.e0, g _ _ h.e2⟩
theorem load_art {w : World} {b : Nat} {z0 z1 z2 z3 z4 z5 z6 : Int} (h0 : w.cell? ⟨b, 0, none⟩ = some (.int .i64 z0)) (h1 : w.cell? ⟨b, 1, none⟩ = some (.int .i64 z1)) (h2 : w.cell? ⟨b, 2, none⟩ = some (.int .i64 z2)) (h3 : w.cell? ⟨b, 3, none⟩ = some (.int .i64 z3)) (h4 : w.cell? ⟨b, 4, none⟩ = some (.int .i64 z4)) (h5 : w.cell? ⟨b, 5, none⟩ = some (.int .i64 z5)) (h6 : w.cell? ⟨b, 6, none⟩ = some (.int .i64 z6)) : (loadVar 49 ⟨b, 0, none⟩).run Tryz.prog w = .ok (.agg #[.int .i64 z0, .int .i64 z1, .int .i64 z2, .int .i64 z3, .int .i64 z4, .int .i64 z5, .int .i64 z6]) w := by go_simp
theorem zeroFn (w : World) : (zeroValue 1).run Tryz.prog w = .ok .nilFunc w := by kernel_rfl
def rsF (b o1 o3 o4 : Nat) : Nat → Nat → Value
  | 0 => rdF 3 100 0 0 (.slice (some ⟨b, o1, none⟩) 4 4) true
  | 1 => rdF 3 100 1 0 (.slice (some ⟨b, o3, none⟩) 2 2) true
  | _ => rdF 3 100 1 10 (.slice (some ⟨b, o4, none⟩) 0 0) true
set_option maxRecDepth 100000 in
set_option maxHeartbeats 8000000 in
theorem tfRead_ok (b o0 o1 o2 o3 o4 : Nat) (c : Nat) (n0 p0 : Int) (w : World) (HK : Hid (KvM w b o0 o1 o2 o3 o4)) (HO : Hid (o1 = o0 + 5 ∧ o2 = o1 + 5 ∧ o3 = o2 + 5 ∧ o4 = o3 + 5)) (hc : 5 ≤ c) :
    Calls Tryz.prog 66 #[.agg #[.int .i64 4, .string ⟨#[116, 105, 109, 101]⟩, .int .i64 n0, .int .i64 p0, .slice (some ⟨b, o0, none⟩) 5 c]] w fun e w' => e = .returned (.tuple #[.agg #[.int .i64 3, .int .i64 7, .int .i64 0, .int .i64 1440, .int .i64 100, .int .i64 1, .int .i64 10], .bool true]) ∧ Hid (Below w.heap.size w w') := by
  have HBL : Hid (b < w.heap.size) := Lib.hid (World.block_lt_of_cell? _ _ HK.out.a0)
  obtain ⟨X, hX⟩ : ∃ X, X = w.heap.size := ⟨_, rfl⟩
  obtain ⟨P, hP⟩ : ∃ P, P = w.heap.size + 2 := ⟨_, rfl⟩
  obtain ⟨A1, hA1⟩ : ∃ A, A = ((w.alloc (.cells #[.int .i64 4, .string ⟨#[116, 105, 109, 101]⟩, .int .i64 n0, .int .i64 p0, .slice (some ⟨b, o0, none⟩) 5 c] 56)).alloc (.cells #[.int .i64 0, .int .i64 0, .int .i64 0, .int .i64 0, .int .i64 0, .int .i64 0, .int .i64 0] 49)) := ⟨_, rfl⟩
  have ha1 : Below w.heap.size w A1 := by rw [hA1]; exact ((Below.refl _ _).alloc (Nat.le_refl _) _).alloc (by simp) _
  have hx1 : A1.cell? ⟨X, 1, none⟩ = some (.string ⟨#[116, 105, 109, 101]⟩) := by rw [hA1, hX]; go_simp
  have hx4 : A1.cell? ⟨X, 4, none⟩ = some (.slice (some ⟨b, o0, none⟩) 5 c) := by rw [hA1, hX]; go_simp
  have hsz : A1.heap.size = P := by rw [hA1, hP]; simp
  have HN0 : Hid (Own A1 (X + 1) 49 7 (fun _ => .int .i64 0)) := Lib.hid (by rw [hA1]; exact Own.newAt _ 49 _ _ (by simp [hX]) (n := 7) rfl (fun i hi => by match i, hi with | 0, _ => rfl | 1, _ => rfl | 2, _ => rfl | 3, _ => rfl | 4, _ => rfl | 5, _ => rfl | 6, _ => rfl))
  obtain ⟨W1, hW1⟩ : ∃ W, W = A1.alloc (.cells #[.int .i64 0, .int .i64 0, .int .i64 0, .int .i64 0, .int .i64 0, .int .i64 0, .int .i64 0, .slice (some ⟨b, o0, none⟩) 5 c, .bool true] 152) := ⟨_, rfl⟩
  have hb1 : Below A1.heap.size A1 W1 := by rw [hW1]; exact (Below.refl _ _).alloc (Nat.le_refl _) _
  have HP1 : Hid (Own W1 P 152 9 (fun i => ([.int .i64 0, .int .i64 0, .int .i64 0, .int .i64 0, .int .i64 0, .int .i64 0, .int .i64 0, .slice (some ⟨b, o0, none⟩) 5 c, .bool true] : List Value)[i]?.getD undef)) := Lib.hid (by rw [hW1]; exact Own.newAt _ 152 _ _ hsz (n := 9) rfl (fun i hi => by match i, hi with | 0, _ => rfl | 1, _ => rfl | 2, _ => rfl | 3, _ => rfl | 4, _ => rfl | 5, _ => rfl | 6, _ => rfl | 7, _ => rfl | 8, _ => rfl))
  have HN1 := Lib.hid (HN0.out.keep hb1 HN0.out.lt)
  have HB1 : Hid (Below w.heap.size w W1) := Lib.hid (below_then ha1 hb1)
  have hXl : X < A1.heap.size := by rw [hsz, hP, hX]; omega
  have x1 : W1.cell? ⟨X, 1, none⟩ = some (.string ⟨#[116, 105, 109, 101]⟩) := (hb1.cell (p := ⟨X, 1, none⟩) hXl).trans hx1
  have hXl1 : X < W1.heap.size := Nat.lt_of_lt_of_le hXl hb1.size
  have HK1 := Lib.hid (HK.out.mod (modB (M := fun _ => False) HB1.out) (fun h => h))
  have HX : Hid (w.heap.size = X ∧ P = X + 2) := Lib.hid ⟨hX.symm, by rw [hP, hX]⟩
  have HXE := Lib.hid hX
  have HA1 := Lib.hid hA1
  have HW1 := Lib.hid hW1
  have HSZ := Lib.hid hsz
  clear ha1 hb1 hA1 hW1 hX hP
  go_enter Tryz.func66, Tryz.ntmps66
  go_upto_region 1 with (fail)
  try simp only [World.size_alloc]
  rw [← HA1.out, ← HXE.out]
  go_upto_region 2 with (fail)
  rw [← HW1.out]
  clear HA1 HW1 hx1 hx4 hXl hsz HSZ HXE
  have p0 := HP1.out.cell (i := 0) (by omega)
  have p1 := HP1.out.cell (i := 1) (by omega)
  have p2 := HP1.out.cell (i := 2) (by omega)
  have p3 := HP1.out.cell (i := 3) (by omega)
  have p4 := HP1.out.cell (i := 4) (by omega)
  have p5 := HP1.out.cell (i := 5) (by omega)
  have p6 := HP1.out.cell (i := 6) (by omega)
  have f0 := HP1.out.frozen 0
  have f1 := HP1.out.frozen 1
  have f2 := HP1.out.frozen 2
  have f3 := HP1.out.frozen 3
  have f4 := HP1.out.frozen 4
  have f5 := HP1.out.frozen 5
  have f6 := HP1.out.frozen 6
  have hPl := HP1.out.lt
  go_wp2_with fail
  refine (tfKindOf_time W1).mono ?_
  rintro e w9 ⟨rfl, hw9⟩
  rw [hw9]
  clear hw9 w9
  go_upto_region 3 with (fail)
  obtain ⟨W2, hW2⟩ : ∃ W, W = ((((((W1.setCell ⟨P, 0, none⟩ (.int .i64 3)).setCell ⟨P, 1, none⟩ (.int .i64 7)).setCell ⟨P, 2, none⟩ (.int .i64 0)).setCell ⟨P, 3, none⟩ (.int .i64 1440)).setCell ⟨P, 4, none⟩ (.int .i64 0)).setCell ⟨P, 5, none⟩ (.int .i64 0)).setCell ⟨P, 6, none⟩ (.int .i64 0) := ⟨_, rfl⟩
  have HP2 : Hid (Own W2 P 152 9 (rdF 3 0 0 0 (.slice (some ⟨b, o0, none⟩) 5 c) true)) := Lib.hid (by rw [hW2]; exact (((((((HP1.out.set 0 _).set 1 _).set 2 _).set 3 _).set 4 _).set 5 _).set 6 _).congr (fun i hi => by match i, hi with | 0, _ => rfl | 1, _ => rfl | 2, _ => rfl | 3, _ => rfl | 4, _ => rfl | 5, _ => rfl | 6, _ => rfl | 7, _ => rfl | 8, _ => rfl))
  have HM2 : Hid (Mod (fun j => j = P) W1 W2) := Lib.hid (by rw [hW2]; exact (((((((show Mod (fun j => j = P) W1 W1 from Mod.refl _ W1).setCell (p := ⟨P, 0, none⟩) (.inl rfl) _).setCell (p := ⟨P, 1, none⟩) (.inl rfl) _).setCell (p := ⟨P, 2, none⟩) (.inl rfl) _).setCell (p := ⟨P, 3, none⟩) (.inl rfl) _).setCell (p := ⟨P, 4, none⟩) (.inl rfl) _).setCell (p := ⟨P, 5, none⟩) (.inl rfl) _).setCell (p := ⟨P, 6, none⟩) (.inl rfl) _)
  rw [← hW2]
  have HBP : Hid (b < X) := Lib.hid (by have := HBL.out; have := HX.out; omega)
  have HK2 := Lib.hid (HK1.out.mod HM2.out (by have := HBP.out; have := HX.out; omega))
  clear hW2 p0 p1 p2 p3 p4 p5 p6 f0 f1 f2 f3 f4 f5 f6 hPl x1 hXl1
  go_wp2_with fail
  refine (tfNumber_ok P b o0 5 c 3 0 0 0 100 W2 HP2 (by omega) hc (by omega) HK2.out.a0 HK2.out.a2).mono ?_
  rintro e W3 ⟨rfl, HP3, HM3⟩
  have HP3 : Hid (Own W3 P 152 9 (rdF 3 0 0 0 (.slice (some ⟨b, o1, none⟩) 4 4) true)) := Lib.hid (by
    have h := HP3.out
    rw [show nxtV b o0 5 = .slice (some ⟨b, o1, none⟩) 4 4 by rw [HO.out.1]; rfl] at h
    exact h)
  have p4 := HP3.out.cell (i := 4) (by omega)
  have f4 := HP3.out.frozen 4
  have hPl := HP3.out.lt
  go_upto_region 4 with (fail)
  obtain ⟨W4, hW4⟩ : ∃ W, W = W3.setCell ⟨P, 4, none⟩ (.int .i64 100) := ⟨_, rfl⟩
  have HP4 : Hid (Own W4 P 152 9 (rsF b o1 o3 o4 0)) := Lib.hid (by rw [hW4]; exact (HP3.out.set 4 _).congr (fun i hi => by match i, hi with | 0, _ => rfl | 1, _ => rfl | 2, _ => rfl | 3, _ => rfl | 4, _ => rfl | 5, _ => rfl | 6, _ => rfl | 7, _ => rfl | 8, _ => rfl))
  have HM4 : Hid (Mod (fun j => j = P) W1 W4) := Lib.hid (by rw [hW4]; exact (HM2.out.trans HM3.out).setCell (p := ⟨P, 4, none⟩) (.inl rfl) _)
  rw [← hW4]
  clear hW4 p4 f4 hPl HP3 HM3 HP2 HM2 HK2 HP1
  have HK4 := Lib.hid (HK1.out.mod HM4.out (by have := HBP.out; have := HX.out; omega))
  have HN4 := Lib.hid (HN1.out.mod HM4.out (by have := HX.out; omega))
  have HB4 : Hid (Below w.heap.size w W4) := Lib.hid (((show Mod (fun q => q = P) w W1 from modB HB1.out).trans HM4.out).below (Nat.le_refl _) (fun j h1 h2 => by have := HX.out; omega))
  clear HK1 HN1 HB1 HM4
  have p0 : W4.cell? ⟨P, 0, none⟩ = some (.int .i64 3) := HP4.out.cell (i := 0) (by omega)
  have hPl := HP4.out.lt
  go_wp2_with fail
  refine (tfClauses_ok P W4 hPl).mono ?_
  rintro e W5 ⟨M, Y, rfl, HCL, HYY, HB5⟩
  have HMY : Hid (M ≠ P ∧ M ≠ b ∧ Y ≠ M ∧ M ≠ X + 1 ∧ w.heap.size ≤ M ∧ Y ≠ P ∧ P ≠ b ∧ P ≠ X + 1 ∧ w.heap.size ≤ P) := Lib.hid (by have h1 := HYY.out.2; have h2 := HP4.out.lt; have h3 := HN4.out.lt; have h4 := HBP.out; have h5 := HX.out; have h6 := HB4.out.size; omega)
  have HY5 : Hid (W5.cell? ⟨Y, 0, none⟩ = some (.pointer (some ⟨P, 0, none⟩))) := Lib.hid HYY.out.1
  have HP5 := Lib.hid (HP4.out.keep HB5.out HP4.out.lt)
  have HN5 := Lib.hid (HN4.out.keep HB5.out HN4.out.lt)
  have HK5 := Lib.hid (HK4.out.mod (modB (M := fun _ => False) HB5.out) (fun h => h))
  have HBW : Hid (Below w.heap.size w W5) := Lib.hid (below_then HB4.out HB5.out)
  clear HP4 HN4 HK4 HB4 HB5 HYY p0 hPl
  have p0 : W5.cell? ⟨P, 0, none⟩ = some (.int .i64 3) := HP5.out.cell (i := 0) (by omega)
  have hPl := HP5.out.lt
  go_wp2_with fail
  refine (tfTime_any 3 W5).mono ?_
  rintro e w9 ⟨rfl, hw9⟩
  rw [hw9, show timeB 3 = true by rfl]
  clear hw9 w9 p0 hPl
  go_wp2_with fail
  go_loopg [6] 2 (fun g1 v6 wr => ∃ i : Nat, i ≤ 2 ∧ 2 - i ≤ g1 ∧ v6 = .bool (decide (0 < i)) ∧ Hid (Own wr P 152 9 (rsF b o1 o3 o4 i)) ∧ Hid (i = 0 → ClM wr M Y true true) ∧ Hid (i = 1 → ClM wr M Y false true) ∧ Hid (KvM wr b o0 o1 o2 o3 o4) ∧ Hid (wr.cell? ⟨Y, 0, none⟩ = some (.pointer (some ⟨P, 0, none⟩))) ∧ Hid (Own wr (X + 1) 49 7 (fun _ => .int .i64 0)) ∧ Hid (Below w.heap.size w wr))
  case atStart => exact ⟨0, by omega, by omega, rfl, HP5, Lib.hid (fun _ => HCL.out), Lib.hid (fun h => by omega), HK5, HY5, HN5, HBW⟩
  case round =>
    clear HP5 HCL HK5 HY5 HN5 HBW
    obtain ⟨i, hi, hg1, rfl, HP, HC0, HC1, HK, HY, HN, HB⟩ := hrel
    have h012 : i = 0 ∨ i = 1 ∨ i = 2 := by omega
    rcases h012 with rfl | rfl | rfl
    · have HCL := Lib.hid (HC0.out rfl)
      clear HC0 HC1
      have p7 : wr.cell? ⟨P, 7, none⟩ = some (.slice (some ⟨b, o1, none⟩) 4 4) := HP.out.cell (i := 7) (by omega)
      have p8 : wr.cell? ⟨P, 8, none⟩ = some (.bool true) := HP.out.cell (i := 8) (by omega)
      have f7 := HP.out.frozen 7
      have hPl : P < wr.heap.size := HP.out.lt
      obtain ⟨nm, fm, hv, hn, hf1, hf2⟩ := HCL.out
      have HV := Lib.hid hv
      have hlk : (Instr.lookup 153 (.map (some M)) (.string ⟨#[112, 101, 114]⟩) true).run Tryz.prog wr = .ok (.tuple #[.func (.func 123) #[] #[.pointer (some ⟨Y, 0, none⟩)], .bool true]) wr := by
        have h := hv.look kSt Tryz.underlying153 (zeroFn wr) (keyS (s := ⟨#[112, 101, 114]⟩) (by decide)) (by trivial)
        rw [hf1 rfl] at h
        exact h
      have HKF : Hid (fm (sLt ⟨#[102, 114, 101, 101]⟩) = some (.func (.func 124) #[] #[.pointer (some ⟨Y, 0, none⟩)])) := Lib.hid (hf2 rfl)
      obtain ⟨W1, hdl, HV1, HMd⟩ := hv.drop kSt Tryz.underlying153 (keyS (s := ⟨#[112, 101, 114]⟩) (by decide)) 0
      clear hv hf1 hf2 HCL
      have HP1 := Lib.hid (HP.out.mod HMd.out (by have := HMY.out; omega))
      have HK1 := Lib.hid (HK.out.mod HMd.out (by have := HMY.out; omega))
      have HY1 : Hid (W1.cell? ⟨Y, 0, none⟩ = some (.pointer (some ⟨P, 0, none⟩))) := Lib.hid ((HMd.out.cell (p := ⟨Y, 0, none⟩) (World.block_lt_of_cell? _ _ HY.out) (by have := HMY.out; show Y ≠ M; omega)).trans HY.out)
      have HN1 := Lib.hid (HN.out.mod HMd.out (by have := HMY.out; omega))
      have HB1 : Hid (Below w.heap.size w W1) := Lib.hid (((show Mod (fun q => q = M) w wr from modB HB.out).trans HMd.out).below (Nat.le_refl _) (fun j h1 h2 => by have := HMY.out; omega))
      have hs : (Instr.slice 54 (.slice (some ⟨b, o1, none⟩) 4 4) (some (.int .i64 1)) (some (.int .i64 4)) (some (.int .i64 4))).run Tryz.prog W1.drew = .ok (.slice (some ⟨b, o2, none⟩) 3 3) W1.drew := by
        have h := slice_run b o1 4 4 (by omega) (by omega) W1.drew
        rw [show nxtV b o1 4 = .slice (some ⟨b, o2, none⟩) 3 3 by rw [HO.out.2.1]; rfl] at h
        exact h
      have HNN := Lib.hid hn
      clear HV hn
      go_wp2_with fail
      refine (tfWord_ok P b o1 4 4 3 100 0 0 ⟨#[112, 101, 114]⟩ wr HP (by omega) (by omega) (by omega) HK.out.b0 HK.out.b1).mono ?_
      rintro e w9 ⟨rfl, hw9⟩
      rw [hw9]
      clear hw9 w9
      clear p7 p8 f7 hPl
      go_upto_region 12 with (fail)
      have p7 : W1.cell? ⟨P, 7, none⟩ = some (.slice (some ⟨b, o1, none⟩) 4 4) := HP1.out.cell (i := 7) (by omega)
      have p8 : W1.cell? ⟨P, 8, none⟩ = some (.bool true) := HP1.out.cell (i := 8) (by omega)
      have f7 := HP1.out.frozen 7
      have hPl : P < W1.heap.size := HP1.out.lt
      have p7d : W1.drew.cell? ⟨P, 7, none⟩ = some (.slice (some ⟨b, o1, none⟩) 4 4) := p7
      have f7d : W1.drew.frozen? ⟨P, 7, none⟩ = false := f7
      have hPld : P < W1.drew.heap.size := hPl
      go_upto_region 13 with (fail)
      go_still_tail 18, (by kernel_rfl)
      change wpList _ _ _ _ _ W1.drew
      go_upto_region 14 with (fail)
      obtain ⟨W2, hW2⟩ : ∃ W, W = (W1.setCell ⟨P, 7, none⟩ (.slice (some ⟨b, o2, none⟩) 3 3)).drew := ⟨_, rfl⟩
      have HP2 : Hid (Own W2 P 152 9 (rdF 3 100 0 0 (.slice (some ⟨b, o2, none⟩) 3 3) true)) := Lib.hid (by rw [hW2]; exact ((HP1.out.set 7 _).congr (fun i hi => by match i, hi with | 0, _ => rfl | 1, _ => rfl | 2, _ => rfl | 3, _ => rfl | 4, _ => rfl | 5, _ => rfl | 6, _ => rfl | 7, _ => rfl | 8, _ => rfl)).drew)
      have HM2 : Hid (Mod (fun j => j = P) W1 W2) := Lib.hid (by rw [hW2]; exact ((show Mod (fun j => j = P) W1 W1 from Mod.refl _ W1).setCell (p := ⟨P, 7, none⟩) (.inl rfl) _).drew)
      rw [← hW2]
      have HK2 := Lib.hid (HK1.out.mod HM2.out (by have := HMY.out; omega))
      have HY2 : Hid (W2.cell? ⟨Y, 0, none⟩ = some (.pointer (some ⟨P, 0, none⟩))) := Lib.hid ((HM2.out.cell (p := ⟨Y, 0, none⟩) (World.block_lt_of_cell? _ _ HY1.out) (by have := HMY.out; show Y ≠ P; omega)).trans HY1.out)
      clear hW2 p7 p8 f7 hPl p7d f7d hPld hs hdl hlk
      go_wp2_with fail
      refine (tfClauses1_ok P Y b o2 3 3 3 100 0 0 1 W2 HP2 (by omega) (by omega) (by omega) HK2.out.c0 HK2.out.c2 HY2.out (by have := HMY.out; omega)).mono ?_
      rintro e W3 ⟨rfl, HP3, HM3⟩
      have HM23 : Hid (Mod (fun j => j = P) W1 W3) := Lib.hid (HM2.out.trans HM3.out)
      have HK3 := Lib.hid (HK1.out.mod HM23.out (by have := HMY.out; omega))
      have HY3 : Hid (W3.cell? ⟨Y, 0, none⟩ = some (.pointer (some ⟨P, 0, none⟩))) := Lib.hid ((HM23.out.cell (p := ⟨Y, 0, none⟩) (World.block_lt_of_cell? _ _ HY1.out) (by have := HMY.out; show Y ≠ P; omega)).trans HY1.out)
      have HN3 := Lib.hid (HN1.out.mod HM23.out (by have := HMY.out; omega))
      have HB3 : Hid (Below w.heap.size w W3) := Lib.hid (((show Mod (fun q => q = P) w W1 from modB HB1.out).trans HM23.out).below (Nat.le_refl _) (fun j h1 h2 => by have := HMY.out; omega))
      have HP3 : Hid (Own W3 P 152 9 (rsF b o1 o3 o4 1)) := Lib.hid (by
        have h := HP3.out
        rw [show nxtV b o2 3 = .slice (some ⟨b, o3, none⟩) 2 2 by rw [HO.out.2.2.1]; rfl] at h
        exact h)
      have HV3 := Lib.hid (HV1.out.mod HM23.out (by have := HMY.out; omega))
      clear HP1 HK1 HY1 HN1 HB1 HP2 HM2 HK2 HY2 HM3 HMd
      go_wp2_with fail
      go_roundg 1
      case measure => omega
      case rel => exact ⟨1, by omega, by omega, rfl, HP3, Lib.hid (fun h => by omega), Lib.hid (fun _ => ⟨_, _, HV3.out, HNN.out, fun h => (by cases h), fun _ => (dropF_other (sLt_ne (by decide))).trans HKF.out⟩), HK3, HY3, HN3, HB3⟩
    · have HCL := Lib.hid (HC1.out rfl)
      clear HC0 HC1
      have p7 : wr.cell? ⟨P, 7, none⟩ = some (.slice (some ⟨b, o3, none⟩) 2 2) := HP.out.cell (i := 7) (by omega)
      have p8 : wr.cell? ⟨P, 8, none⟩ = some (.bool true) := HP.out.cell (i := 8) (by omega)
      have f7 := HP.out.frozen 7
      have hPl : P < wr.heap.size := HP.out.lt
      obtain ⟨nm, fm, hv, hn, hf1, hf2⟩ := HCL.out
      have HV := Lib.hid hv
      have hlk : (Instr.lookup 153 (.map (some M)) (.string ⟨#[102, 114, 101, 101]⟩) true).run Tryz.prog wr = .ok (.tuple #[.func (.func 124) #[] #[.pointer (some ⟨Y, 0, none⟩)], .bool true]) wr := by
        have h := hv.look kSt Tryz.underlying153 (zeroFn wr) (keyS (s := ⟨#[102, 114, 101, 101]⟩) (by decide)) (by trivial)
        rw [hf2 rfl] at h
        exact h
      have HKF : Hid (True) := Lib.hid (trivial)
      obtain ⟨W1, hdl, HV1, HMd⟩ := hv.drop kSt Tryz.underlying153 (keyS (s := ⟨#[102, 114, 101, 101]⟩) (by decide)) 0
      clear hv hf1 hf2 HCL
      have HP1 := Lib.hid (HP.out.mod HMd.out (by have := HMY.out; omega))
      have HK1 := Lib.hid (HK.out.mod HMd.out (by have := HMY.out; omega))
      have HY1 : Hid (W1.cell? ⟨Y, 0, none⟩ = some (.pointer (some ⟨P, 0, none⟩))) := Lib.hid ((HMd.out.cell (p := ⟨Y, 0, none⟩) (World.block_lt_of_cell? _ _ HY.out) (by have := HMY.out; show Y ≠ M; omega)).trans HY.out)
      have HN1 := Lib.hid (HN.out.mod HMd.out (by have := HMY.out; omega))
      have HB1 : Hid (Below w.heap.size w W1) := Lib.hid (((show Mod (fun q => q = M) w wr from modB HB.out).trans HMd.out).below (Nat.le_refl _) (fun j h1 h2 => by have := HMY.out; omega))
      have hs : (Instr.slice 54 (.slice (some ⟨b, o3, none⟩) 2 2) (some (.int .i64 1)) (some (.int .i64 2)) (some (.int .i64 2))).run Tryz.prog W1.drew = .ok (.slice (some ⟨b, o4, none⟩) 1 1) W1.drew := by
        have h := slice_run b o3 2 2 (by omega) (by omega) W1.drew
        rw [show nxtV b o3 2 = .slice (some ⟨b, o4, none⟩) 1 1 by rw [HO.out.2.2.2]; rfl] at h
        exact h
      have HNN := Lib.hid hn
      clear HV hn
      go_wp2_with fail
      refine (tfWord_ok P b o3 2 2 3 100 1 0 ⟨#[102, 114, 101, 101]⟩ wr HP (by omega) (by omega) (by omega) HK.out.d0 HK.out.d1).mono ?_
      rintro e w9 ⟨rfl, hw9⟩
      rw [hw9]
      clear hw9 w9
      clear p7 p8 f7 hPl
      go_upto_region 12 with (fail)
      have p7 : W1.cell? ⟨P, 7, none⟩ = some (.slice (some ⟨b, o3, none⟩) 2 2) := HP1.out.cell (i := 7) (by omega)
      have p8 : W1.cell? ⟨P, 8, none⟩ = some (.bool true) := HP1.out.cell (i := 8) (by omega)
      have f7 := HP1.out.frozen 7
      have hPl : P < W1.heap.size := HP1.out.lt
      have p7d : W1.drew.cell? ⟨P, 7, none⟩ = some (.slice (some ⟨b, o3, none⟩) 2 2) := p7
      have f7d : W1.drew.frozen? ⟨P, 7, none⟩ = false := f7
      have hPld : P < W1.drew.heap.size := hPl
      go_upto_region 13 with (fail)
      go_still_tail 18, (by kernel_rfl)
      change wpList _ _ _ _ _ W1.drew
      go_upto_region 14 with (fail)
      obtain ⟨W2, hW2⟩ : ∃ W, W = (W1.setCell ⟨P, 7, none⟩ (.slice (some ⟨b, o4, none⟩) 1 1)).drew := ⟨_, rfl⟩
      have HP2 : Hid (Own W2 P 152 9 (rdF 3 100 1 0 (.slice (some ⟨b, o4, none⟩) 1 1) true)) := Lib.hid (by rw [hW2]; exact ((HP1.out.set 7 _).congr (fun i hi => by match i, hi with | 0, _ => rfl | 1, _ => rfl | 2, _ => rfl | 3, _ => rfl | 4, _ => rfl | 5, _ => rfl | 6, _ => rfl | 7, _ => rfl | 8, _ => rfl)).drew)
      have HM2 : Hid (Mod (fun j => j = P) W1 W2) := Lib.hid (by rw [hW2]; exact ((show Mod (fun j => j = P) W1 W1 from Mod.refl _ W1).setCell (p := ⟨P, 7, none⟩) (.inl rfl) _).drew)
      rw [← hW2]
      have HK2 := Lib.hid (HK1.out.mod HM2.out (by have := HMY.out; omega))
      have HY2 : Hid (W2.cell? ⟨Y, 0, none⟩ = some (.pointer (some ⟨P, 0, none⟩))) := Lib.hid ((HM2.out.cell (p := ⟨Y, 0, none⟩) (World.block_lt_of_cell? _ _ HY1.out) (by have := HMY.out; show Y ≠ P; omega)).trans HY1.out)
      clear hW2 p7 p8 f7 hPl p7d f7d hPld hs hdl hlk
      go_wp2_with fail
      refine (tfClauses2_ok P Y b o4 1 1 3 100 1 0 10 W2 HP2 (by omega) (by omega) (by omega) HK2.out.e0 HK2.out.e2 HY2.out (by have := HMY.out; omega)).mono ?_
      rintro e W3 ⟨rfl, HP3, HM3⟩
      have HM23 : Hid (Mod (fun j => j = P) W1 W3) := Lib.hid (HM2.out.trans HM3.out)
      have HK3 := Lib.hid (HK1.out.mod HM23.out (by have := HMY.out; omega))
      have HY3 : Hid (W3.cell? ⟨Y, 0, none⟩ = some (.pointer (some ⟨P, 0, none⟩))) := Lib.hid ((HM23.out.cell (p := ⟨Y, 0, none⟩) (World.block_lt_of_cell? _ _ HY1.out) (by have := HMY.out; show Y ≠ P; omega)).trans HY1.out)
      have HN3 := Lib.hid (HN1.out.mod HM23.out (by have := HMY.out; omega))
      have HB3 : Hid (Below w.heap.size w W3) := Lib.hid (((show Mod (fun q => q = P) w W1 from modB HB1.out).trans HM23.out).below (Nat.le_refl _) (fun j h1 h2 => by have := HMY.out; omega))
      have HP3 : Hid (Own W3 P 152 9 (rsF b o1 o3 o4 2)) := Lib.hid (by
        have h := HP3.out
        rw [show nxtV b o4 1 = .slice (some ⟨b, o4, none⟩) 0 0 by rfl] at h
        exact h)
      have HV3 := Lib.hid (HV1.out.mod HM23.out (by have := HMY.out; omega))
      clear HP1 HK1 HY1 HN1 HB1 HP2 HM2 HK2 HY2 HM3 HMd
      go_wp2_with fail
      go_roundg 0
      case measure => omega
      case rel => exact ⟨2, by omega, by omega, rfl, HP3, Lib.hid (fun h => by omega), Lib.hid (fun h => by omega), HK3, HY3, HN3, HB3⟩
    · clear HC0 HC1
      have p7 : wr.cell? ⟨P, 7, none⟩ = some (.slice (some ⟨b, o4, none⟩) 0 0) := HP.out.cell (i := 7) (by omega)
      have p8 : wr.cell? ⟨P, 8, none⟩ = some (.bool true) := HP.out.cell (i := 8) (by omega)
      have f7 := HP.out.frozen 7
      have hPl : P < wr.heap.size := HP.out.lt
      go_wp2_with fail
      rw [show decide (0 < 2) = true from rfl]
      have p0 : wr.cell? ⟨P, 0, none⟩ = some (.int .i64 3) := HP.out.cell (i := 0) (by omega)
      have p1 : wr.cell? ⟨P, 1, none⟩ = some (.int .i64 7) := HP.out.cell (i := 1) (by omega)
      have p2 : wr.cell? ⟨P, 2, none⟩ = some (.int .i64 0) := HP.out.cell (i := 2) (by omega)
      have p3 : wr.cell? ⟨P, 3, none⟩ = some (.int .i64 1440) := HP.out.cell (i := 3) (by omega)
      have p4 : wr.cell? ⟨P, 4, none⟩ = some (.int .i64 100) := HP.out.cell (i := 4) (by omega)
      have p5 : wr.cell? ⟨P, 5, none⟩ = some (.int .i64 1) := HP.out.cell (i := 5) (by omega)
      have p6 : wr.cell? ⟨P, 6, none⟩ = some (.int .i64 10) := HP.out.cell (i := 6) (by omega)
      have n0' : wr.cell? ⟨X + 1, 0, none⟩ = some (.int .i64 0) := HN.out.cell (i := 0) (by omega)
      have g0 := HN.out.frozen 0
      have n1' : wr.cell? ⟨X + 1, 1, none⟩ = some (.int .i64 0) := HN.out.cell (i := 1) (by omega)
      have g1 := HN.out.frozen 1
      have n2' : wr.cell? ⟨X + 1, 2, none⟩ = some (.int .i64 0) := HN.out.cell (i := 2) (by omega)
      have g2 := HN.out.frozen 2
      have n3' : wr.cell? ⟨X + 1, 3, none⟩ = some (.int .i64 0) := HN.out.cell (i := 3) (by omega)
      have g3 := HN.out.frozen 3
      have n4' : wr.cell? ⟨X + 1, 4, none⟩ = some (.int .i64 0) := HN.out.cell (i := 4) (by omega)
      have g4 := HN.out.frozen 4
      have n5' : wr.cell? ⟨X + 1, 5, none⟩ = some (.int .i64 0) := HN.out.cell (i := 5) (by omega)
      have g5 := HN.out.frozen 5
      have n6' : wr.cell? ⟨X + 1, 6, none⟩ = some (.int .i64 0) := HN.out.cell (i := 6) (by omega)
      have g6 := HN.out.frozen 6
      have hNl : X + 1 < wr.heap.size := HN.out.lt
      have hPX : P ≠ X + 1 := HMY.out.2.2.2.2.2.2.2.1
      refine region_z (S := fun w' => Mod (fun j => j = X + 1) wr w') [] (by kernel_rfl) ((show Mod (fun j => j = X + 1) wr wr from Mod.refl _ wr).drew) (fun hHeld => ?_)
      refine wpAnyZ_take (i := 0) (v := .pointer (some ⟨P, 0, none⟩)) [1, 2, 3, 19] rfl (by kernel_rfl) (by kernel_rfl) (by kernel_rfl) (by kernel_rfl) (fun _ _ _ h => h) (Or.inl ⟨by kernel_rfl, fun w' hSw => ?_⟩) hHeld ?_
      · have q0 := (hSw.cell (p := ⟨P, 0, none⟩) hPl hPX).trans p0
        have q1 := (hSw.cell (p := ⟨P, 1, none⟩) hPl hPX).trans p1
        have q2 := (hSw.cell (p := ⟨P, 2, none⟩) hPl hPX).trans p2
        have q3 := (hSw.cell (p := ⟨P, 3, none⟩) hPl hPX).trans p3
        have q4 := (hSw.cell (p := ⟨P, 4, none⟩) hPl hPX).trans p4
        have q5 := (hSw.cell (p := ⟨P, 5, none⟩) hPl hPX).trans p5
        have q6 := (hSw.cell (p := ⟨P, 6, none⟩) hPl hPX).trans p6
        have q8 := (hSw.cell (p := ⟨P, 8, none⟩) hPl hPX).trans p8
        have hq : P < w'.heap.size := Nat.lt_of_lt_of_le hPl hSw.size
        clear hHeld hSw
        go_simp
      simp only [Act.put, List.getElem_toArray, List.getElem_cons_zero, List.getElem_cons_succ, List.setIfInBounds_toArray, List.set_cons_zero, List.set_cons_succ]
      refine wpAnyZ_take (i := 1) (v := .pointer (some ⟨P, 0, none⟩)) [2, 3, 19] rfl (by kernel_rfl) (by kernel_rfl) (by kernel_rfl) (by kernel_rfl) (fun _ _ _ h => h) (Or.inl ⟨by kernel_rfl, fun w' hSw => ?_⟩) hHeld ?_
      · have q0 := (hSw.cell (p := ⟨P, 0, none⟩) hPl hPX).trans p0
        have q1 := (hSw.cell (p := ⟨P, 1, none⟩) hPl hPX).trans p1
        have q2 := (hSw.cell (p := ⟨P, 2, none⟩) hPl hPX).trans p2
        have q3 := (hSw.cell (p := ⟨P, 3, none⟩) hPl hPX).trans p3
        have q4 := (hSw.cell (p := ⟨P, 4, none⟩) hPl hPX).trans p4
        have q5 := (hSw.cell (p := ⟨P, 5, none⟩) hPl hPX).trans p5
        have q6 := (hSw.cell (p := ⟨P, 6, none⟩) hPl hPX).trans p6
        have q8 := (hSw.cell (p := ⟨P, 8, none⟩) hPl hPX).trans p8
        have hq : P < w'.heap.size := Nat.lt_of_lt_of_le hPl hSw.size
        clear hHeld hSw
        go_simp
      simp only [Act.put, List.getElem_toArray, List.getElem_cons_zero, List.getElem_cons_succ, List.setIfInBounds_toArray, List.set_cons_zero, List.set_cons_succ]
      refine wpAnyZ_take (i := 2) (v := .pointer (some ⟨P, 0, none⟩)) [3, 19] rfl (by kernel_rfl) (by kernel_rfl) (by kernel_rfl) (by kernel_rfl) (fun _ _ _ h => h) (Or.inl ⟨by kernel_rfl, fun w' hSw => ?_⟩) hHeld ?_
      · have q0 := (hSw.cell (p := ⟨P, 0, none⟩) hPl hPX).trans p0
        have q1 := (hSw.cell (p := ⟨P, 1, none⟩) hPl hPX).trans p1
        have q2 := (hSw.cell (p := ⟨P, 2, none⟩) hPl hPX).trans p2
        have q3 := (hSw.cell (p := ⟨P, 3, none⟩) hPl hPX).trans p3
        have q4 := (hSw.cell (p := ⟨P, 4, none⟩) hPl hPX).trans p4
        have q5 := (hSw.cell (p := ⟨P, 5, none⟩) hPl hPX).trans p5
        have q6 := (hSw.cell (p := ⟨P, 6, none⟩) hPl hPX).trans p6
        have q8 := (hSw.cell (p := ⟨P, 8, none⟩) hPl hPX).trans p8
        have hq : P < w'.heap.size := Nat.lt_of_lt_of_le hPl hSw.size
        clear hHeld hSw
        go_simp
      simp only [Act.put, List.getElem_toArray, List.getElem_cons_zero, List.getElem_cons_succ, List.setIfInBounds_toArray, List.set_cons_zero, List.set_cons_succ]
      refine wpAnyZ_take (i := 3) (v := .agg #[.int .i64 3, .int .i64 7, .int .i64 0, .int .i64 1440, .int .i64 100, .int .i64 1, .int .i64 10]) [19] rfl (by kernel_rfl) (by kernel_rfl) (by kernel_rfl) (by kernel_rfl) (fun _ _ _ h => h) (Or.inl ⟨by kernel_rfl, fun w' hSw => ?_⟩) hHeld ?_
      · have q0 := (hSw.cell (p := ⟨P, 0, none⟩) hPl hPX).trans p0
        have q1 := (hSw.cell (p := ⟨P, 1, none⟩) hPl hPX).trans p1
        have q2 := (hSw.cell (p := ⟨P, 2, none⟩) hPl hPX).trans p2
        have q3 := (hSw.cell (p := ⟨P, 3, none⟩) hPl hPX).trans p3
        have q4 := (hSw.cell (p := ⟨P, 4, none⟩) hPl hPX).trans p4
        have q5 := (hSw.cell (p := ⟨P, 5, none⟩) hPl hPX).trans p5
        have q6 := (hSw.cell (p := ⟨P, 6, none⟩) hPl hPX).trans p6
        have q8 := (hSw.cell (p := ⟨P, 8, none⟩) hPl hPX).trans p8
        have hq : P < w'.heap.size := Nat.lt_of_lt_of_le hPl hSw.size
        clear hHeld hSw
        go_simp
      simp only [Act.put, List.getElem_toArray, List.getElem_cons_zero, List.getElem_cons_succ, List.setIfInBounds_toArray, List.set_cons_zero, List.set_cons_succ]
      refine wpAnyZ_take (i := 4) (v := .pointer (some ⟨P, 0, none⟩)) [5, 6, 7, 8, 9, 10, 11, 12, 13, 14, 15, 16, 17, 18, 19, 20] rfl (by kernel_rfl) (by kernel_rfl) (by kernel_rfl) (by kernel_rfl) (fun _ _ _ h => h) (Or.inl ⟨by kernel_rfl, fun w' hSw => ?_⟩) hHeld ?_
      · have q0 := (hSw.cell (p := ⟨P, 0, none⟩) hPl hPX).trans p0
        have q1 := (hSw.cell (p := ⟨P, 1, none⟩) hPl hPX).trans p1
        have q2 := (hSw.cell (p := ⟨P, 2, none⟩) hPl hPX).trans p2
        have q3 := (hSw.cell (p := ⟨P, 3, none⟩) hPl hPX).trans p3
        have q4 := (hSw.cell (p := ⟨P, 4, none⟩) hPl hPX).trans p4
        have q5 := (hSw.cell (p := ⟨P, 5, none⟩) hPl hPX).trans p5
        have q6 := (hSw.cell (p := ⟨P, 6, none⟩) hPl hPX).trans p6
        have q8 := (hSw.cell (p := ⟨P, 8, none⟩) hPl hPX).trans p8
        have hq : P < w'.heap.size := Nat.lt_of_lt_of_le hPl hSw.size
        clear hHeld hSw
        go_simp
      simp only [Act.put, List.getElem_toArray, List.getElem_cons_zero, List.getElem_cons_succ, List.setIfInBounds_toArray, List.set_cons_zero, List.set_cons_succ]
      refine wpAnyZ_take (i := 5) (v := .pointer (some ⟨P, 0, none⟩)) [6, 7, 8, 9, 10, 11, 12, 13, 14, 15, 16, 17, 18, 19, 20] rfl (by kernel_rfl) (by kernel_rfl) (by kernel_rfl) (by kernel_rfl) (fun _ _ _ h => h) (Or.inl ⟨by kernel_rfl, fun w' hSw => ?_⟩) hHeld ?_
      · have q0 := (hSw.cell (p := ⟨P, 0, none⟩) hPl hPX).trans p0
        have q1 := (hSw.cell (p := ⟨P, 1, none⟩) hPl hPX).trans p1
        have q2 := (hSw.cell (p := ⟨P, 2, none⟩) hPl hPX).trans p2
        have q3 := (hSw.cell (p := ⟨P, 3, none⟩) hPl hPX).trans p3
        have q4 := (hSw.cell (p := ⟨P, 4, none⟩) hPl hPX).trans p4
        have q5 := (hSw.cell (p := ⟨P, 5, none⟩) hPl hPX).trans p5
        have q6 := (hSw.cell (p := ⟨P, 6, none⟩) hPl hPX).trans p6
        have q8 := (hSw.cell (p := ⟨P, 8, none⟩) hPl hPX).trans p8
        have hq : P < w'.heap.size := Nat.lt_of_lt_of_le hPl hSw.size
        clear hHeld hSw
        go_simp
      simp only [Act.put, List.getElem_toArray, List.getElem_cons_zero, List.getElem_cons_succ, List.setIfInBounds_toArray, List.set_cons_zero, List.set_cons_succ]
      refine wpAnyZ_take (i := 6) (v := .pointer (some ⟨P, 8, none⟩)) [7, 8, 9, 10, 11, 12, 13, 14, 15, 16, 17, 18, 19, 20] rfl (by kernel_rfl) (by kernel_rfl) (by kernel_rfl) (by kernel_rfl) (fun _ _ _ h => h) (Or.inl ⟨by kernel_rfl, fun w' hSw => ?_⟩) hHeld ?_
      · have q0 := (hSw.cell (p := ⟨P, 0, none⟩) hPl hPX).trans p0
        have q1 := (hSw.cell (p := ⟨P, 1, none⟩) hPl hPX).trans p1
        have q2 := (hSw.cell (p := ⟨P, 2, none⟩) hPl hPX).trans p2
        have q3 := (hSw.cell (p := ⟨P, 3, none⟩) hPl hPX).trans p3
        have q4 := (hSw.cell (p := ⟨P, 4, none⟩) hPl hPX).trans p4
        have q5 := (hSw.cell (p := ⟨P, 5, none⟩) hPl hPX).trans p5
        have q6 := (hSw.cell (p := ⟨P, 6, none⟩) hPl hPX).trans p6
        have q8 := (hSw.cell (p := ⟨P, 8, none⟩) hPl hPX).trans p8
        have hq : P < w'.heap.size := Nat.lt_of_lt_of_le hPl hSw.size
        clear hHeld hSw
        go_simp
      simp only [Act.put, List.getElem_toArray, List.getElem_cons_zero, List.getElem_cons_succ, List.setIfInBounds_toArray, List.set_cons_zero, List.set_cons_succ]
      refine wpAnyZ_take (i := 7) (v := .bool true) [8, 9, 10, 11, 12, 13, 14, 15, 16, 17, 18, 19, 20] rfl (by kernel_rfl) (by kernel_rfl) (by kernel_rfl) (by kernel_rfl) (fun _ _ _ h => h) (Or.inl ⟨by kernel_rfl, fun w' hSw => ?_⟩) hHeld ?_
      · have q0 := (hSw.cell (p := ⟨P, 0, none⟩) hPl hPX).trans p0
        have q1 := (hSw.cell (p := ⟨P, 1, none⟩) hPl hPX).trans p1
        have q2 := (hSw.cell (p := ⟨P, 2, none⟩) hPl hPX).trans p2
        have q3 := (hSw.cell (p := ⟨P, 3, none⟩) hPl hPX).trans p3
        have q4 := (hSw.cell (p := ⟨P, 4, none⟩) hPl hPX).trans p4
        have q5 := (hSw.cell (p := ⟨P, 5, none⟩) hPl hPX).trans p5
        have q6 := (hSw.cell (p := ⟨P, 6, none⟩) hPl hPX).trans p6
        have q8 := (hSw.cell (p := ⟨P, 8, none⟩) hPl hPX).trans p8
        have hq : P < w'.heap.size := Nat.lt_of_lt_of_le hPl hSw.size
        clear hHeld hSw
        go_simp
      simp only [Act.put, List.getElem_toArray, List.getElem_cons_zero, List.getElem_cons_succ, List.setIfInBounds_toArray, List.set_cons_zero, List.set_cons_succ]
      refine wpAnyZ_take (i := 8) (v := .bool true) [9, 10, 11, 12, 13, 14, 15, 16, 17, 18, 19, 20] rfl (by kernel_rfl) (by kernel_rfl) (by kernel_rfl) (by kernel_rfl) (fun _ _ _ h => h) (Or.inl ⟨by kernel_rfl, fun w' hSw => ?_⟩) hHeld ?_
      · have q0 := (hSw.cell (p := ⟨P, 0, none⟩) hPl hPX).trans p0
        have q1 := (hSw.cell (p := ⟨P, 1, none⟩) hPl hPX).trans p1
        have q2 := (hSw.cell (p := ⟨P, 2, none⟩) hPl hPX).trans p2
        have q3 := (hSw.cell (p := ⟨P, 3, none⟩) hPl hPX).trans p3
        have q4 := (hSw.cell (p := ⟨P, 4, none⟩) hPl hPX).trans p4
        have q5 := (hSw.cell (p := ⟨P, 5, none⟩) hPl hPX).trans p5
        have q6 := (hSw.cell (p := ⟨P, 6, none⟩) hPl hPX).trans p6
        have q8 := (hSw.cell (p := ⟨P, 8, none⟩) hPl hPX).trans p8
        have hq : P < w'.heap.size := Nat.lt_of_lt_of_le hPl hSw.size
        clear hHeld hSw
        go_simp
      simp only [Act.put, List.getElem_toArray, List.getElem_cons_zero, List.getElem_cons_succ, List.setIfInBounds_toArray, List.set_cons_zero, List.set_cons_succ]
      refine wpAnyZ_take (i := 9) (v := .bool true) [10, 11, 12, 13, 14, 15, 16, 17, 18, 19, 20] rfl (by kernel_rfl) (by kernel_rfl) (by kernel_rfl) (by kernel_rfl) (fun _ _ _ h => h) (Or.inl ⟨by kernel_rfl, fun w' hSw => ?_⟩) hHeld ?_
      · have q0 := (hSw.cell (p := ⟨P, 0, none⟩) hPl hPX).trans p0
        have q1 := (hSw.cell (p := ⟨P, 1, none⟩) hPl hPX).trans p1
        have q2 := (hSw.cell (p := ⟨P, 2, none⟩) hPl hPX).trans p2
        have q3 := (hSw.cell (p := ⟨P, 3, none⟩) hPl hPX).trans p3
        have q4 := (hSw.cell (p := ⟨P, 4, none⟩) hPl hPX).trans p4
        have q5 := (hSw.cell (p := ⟨P, 5, none⟩) hPl hPX).trans p5
        have q6 := (hSw.cell (p := ⟨P, 6, none⟩) hPl hPX).trans p6
        have q8 := (hSw.cell (p := ⟨P, 8, none⟩) hPl hPX).trans p8
        have hq : P < w'.heap.size := Nat.lt_of_lt_of_le hPl hSw.size
        clear hHeld hSw
        go_simp
      simp only [Act.put, List.getElem_toArray, List.getElem_cons_zero, List.getElem_cons_succ, List.setIfInBounds_toArray, List.set_cons_zero, List.set_cons_succ]
      refine wpAnyZ_take (i := 10) (v := .bool true) [11, 12, 13, 14, 15, 16, 17, 18, 19, 20] rfl (by kernel_rfl) (by kernel_rfl) (by kernel_rfl) (by kernel_rfl) (fun _ _ _ h => h) (Or.inl ⟨by kernel_rfl, fun w' hSw => ?_⟩) hHeld ?_
      · have q0 := (hSw.cell (p := ⟨P, 0, none⟩) hPl hPX).trans p0
        have q1 := (hSw.cell (p := ⟨P, 1, none⟩) hPl hPX).trans p1
        have q2 := (hSw.cell (p := ⟨P, 2, none⟩) hPl hPX).trans p2
        have q3 := (hSw.cell (p := ⟨P, 3, none⟩) hPl hPX).trans p3
        have q4 := (hSw.cell (p := ⟨P, 4, none⟩) hPl hPX).trans p4
        have q5 := (hSw.cell (p := ⟨P, 5, none⟩) hPl hPX).trans p5
        have q6 := (hSw.cell (p := ⟨P, 6, none⟩) hPl hPX).trans p6
        have q8 := (hSw.cell (p := ⟨P, 8, none⟩) hPl hPX).trans p8
        have hq : P < w'.heap.size := Nat.lt_of_lt_of_le hPl hSw.size
        clear hHeld hSw
        go_simp
      simp only [Act.put, List.getElem_toArray, List.getElem_cons_zero, List.getElem_cons_succ, List.setIfInBounds_toArray, List.set_cons_zero, List.set_cons_succ]
      refine wpAnyZ_take (i := 11) (v := .bool true) [12, 13, 14, 15, 16, 17, 18, 19, 20] rfl (by kernel_rfl) (by kernel_rfl) (by kernel_rfl) (by kernel_rfl) (fun _ _ _ h => h) (Or.inl ⟨by kernel_rfl, fun w' hSw => ?_⟩) hHeld ?_
      · have q0 := (hSw.cell (p := ⟨P, 0, none⟩) hPl hPX).trans p0
        have q1 := (hSw.cell (p := ⟨P, 1, none⟩) hPl hPX).trans p1
        have q2 := (hSw.cell (p := ⟨P, 2, none⟩) hPl hPX).trans p2
        have q3 := (hSw.cell (p := ⟨P, 3, none⟩) hPl hPX).trans p3
        have q4 := (hSw.cell (p := ⟨P, 4, none⟩) hPl hPX).trans p4
        have q5 := (hSw.cell (p := ⟨P, 5, none⟩) hPl hPX).trans p5
        have q6 := (hSw.cell (p := ⟨P, 6, none⟩) hPl hPX).trans p6
        have q8 := (hSw.cell (p := ⟨P, 8, none⟩) hPl hPX).trans p8
        have hq : P < w'.heap.size := Nat.lt_of_lt_of_le hPl hSw.size
        clear hHeld hSw
        go_simp
      simp only [Act.put, List.getElem_toArray, List.getElem_cons_zero, List.getElem_cons_succ, List.setIfInBounds_toArray, List.set_cons_zero, List.set_cons_succ]
      refine wpAnyZ_take (i := 12) (v := .pointer (some ⟨P, 0, none⟩)) [13, 14, 15, 16, 17, 18, 20] rfl (by kernel_rfl) (by kernel_rfl) (by kernel_rfl) (by kernel_rfl) (fun _ _ _ h => h) (Or.inl ⟨by kernel_rfl, fun w' hSw => ?_⟩) hHeld ?_
      · have q0 := (hSw.cell (p := ⟨P, 0, none⟩) hPl hPX).trans p0
        have q1 := (hSw.cell (p := ⟨P, 1, none⟩) hPl hPX).trans p1
        have q2 := (hSw.cell (p := ⟨P, 2, none⟩) hPl hPX).trans p2
        have q3 := (hSw.cell (p := ⟨P, 3, none⟩) hPl hPX).trans p3
        have q4 := (hSw.cell (p := ⟨P, 4, none⟩) hPl hPX).trans p4
        have q5 := (hSw.cell (p := ⟨P, 5, none⟩) hPl hPX).trans p5
        have q6 := (hSw.cell (p := ⟨P, 6, none⟩) hPl hPX).trans p6
        have q8 := (hSw.cell (p := ⟨P, 8, none⟩) hPl hPX).trans p8
        have hq : P < w'.heap.size := Nat.lt_of_lt_of_le hPl hSw.size
        clear hHeld hSw
        go_simp
      simp only [Act.put, List.getElem_toArray, List.getElem_cons_zero, List.getElem_cons_succ, List.setIfInBounds_toArray, List.set_cons_zero, List.set_cons_succ]
      refine wpAnyZ_take (i := 13) (v := .pointer (some ⟨P, 0, none⟩)) [14, 15, 16, 17, 18, 20] rfl (by kernel_rfl) (by kernel_rfl) (by kernel_rfl) (by kernel_rfl) (fun _ _ _ h => h) (Or.inl ⟨by kernel_rfl, fun w' hSw => ?_⟩) hHeld ?_
      · have q0 := (hSw.cell (p := ⟨P, 0, none⟩) hPl hPX).trans p0
        have q1 := (hSw.cell (p := ⟨P, 1, none⟩) hPl hPX).trans p1
        have q2 := (hSw.cell (p := ⟨P, 2, none⟩) hPl hPX).trans p2
        have q3 := (hSw.cell (p := ⟨P, 3, none⟩) hPl hPX).trans p3
        have q4 := (hSw.cell (p := ⟨P, 4, none⟩) hPl hPX).trans p4
        have q5 := (hSw.cell (p := ⟨P, 5, none⟩) hPl hPX).trans p5
        have q6 := (hSw.cell (p := ⟨P, 6, none⟩) hPl hPX).trans p6
        have q8 := (hSw.cell (p := ⟨P, 8, none⟩) hPl hPX).trans p8
        have hq : P < w'.heap.size := Nat.lt_of_lt_of_le hPl hSw.size
        clear hHeld hSw
        go_simp
      simp only [Act.put, List.getElem_toArray, List.getElem_cons_zero, List.getElem_cons_succ, List.setIfInBounds_toArray, List.set_cons_zero, List.set_cons_succ]
      refine wpAnyZ_take (i := 14) (v := .pointer (some ⟨P, 0, none⟩)) [15, 16, 17, 18, 20] rfl (by kernel_rfl) (by kernel_rfl) (by kernel_rfl) (by kernel_rfl) (fun _ _ _ h => h) (Or.inl ⟨by kernel_rfl, fun w' hSw => ?_⟩) hHeld ?_
      · have q0 := (hSw.cell (p := ⟨P, 0, none⟩) hPl hPX).trans p0
        have q1 := (hSw.cell (p := ⟨P, 1, none⟩) hPl hPX).trans p1
        have q2 := (hSw.cell (p := ⟨P, 2, none⟩) hPl hPX).trans p2
        have q3 := (hSw.cell (p := ⟨P, 3, none⟩) hPl hPX).trans p3
        have q4 := (hSw.cell (p := ⟨P, 4, none⟩) hPl hPX).trans p4
        have q5 := (hSw.cell (p := ⟨P, 5, none⟩) hPl hPX).trans p5
        have q6 := (hSw.cell (p := ⟨P, 6, none⟩) hPl hPX).trans p6
        have q8 := (hSw.cell (p := ⟨P, 8, none⟩) hPl hPX).trans p8
        have hq : P < w'.heap.size := Nat.lt_of_lt_of_le hPl hSw.size
        clear hHeld hSw
        go_simp
      simp only [Act.put, List.getElem_toArray, List.getElem_cons_zero, List.getElem_cons_succ, List.setIfInBounds_toArray, List.set_cons_zero, List.set_cons_succ]
      refine wpAnyZ_take (i := 15) (v := .pointer (some ⟨P, 0, none⟩)) [16, 17, 18, 20] rfl (by kernel_rfl) (by kernel_rfl) (by kernel_rfl) (by kernel_rfl) (fun _ _ _ h => h) (Or.inl ⟨by kernel_rfl, fun w' hSw => ?_⟩) hHeld ?_
      · have q0 := (hSw.cell (p := ⟨P, 0, none⟩) hPl hPX).trans p0
        have q1 := (hSw.cell (p := ⟨P, 1, none⟩) hPl hPX).trans p1
        have q2 := (hSw.cell (p := ⟨P, 2, none⟩) hPl hPX).trans p2
        have q3 := (hSw.cell (p := ⟨P, 3, none⟩) hPl hPX).trans p3
        have q4 := (hSw.cell (p := ⟨P, 4, none⟩) hPl hPX).trans p4
        have q5 := (hSw.cell (p := ⟨P, 5, none⟩) hPl hPX).trans p5
        have q6 := (hSw.cell (p := ⟨P, 6, none⟩) hPl hPX).trans p6
        have q8 := (hSw.cell (p := ⟨P, 8, none⟩) hPl hPX).trans p8
        have hq : P < w'.heap.size := Nat.lt_of_lt_of_le hPl hSw.size
        clear hHeld hSw
        go_simp
      simp only [Act.put, List.getElem_toArray, List.getElem_cons_zero, List.getElem_cons_succ, List.setIfInBounds_toArray, List.set_cons_zero, List.set_cons_succ]
      refine wpAnyZ_two (i := 16) (k := 19) (by kernel_rfl) rfl rfl (fun K' hK => ?_) (fun K' hK => ?_)
      · have q0 := p0
        go_simp
        refine hK.out _ _ ?_ (fun hHeld' => ?_)
        · exact hHeld
        clear hK K' hHeld
        have hHeld := hHeld'
        clear hHeld'
        try simp only [Act.put, List.getElem_toArray, List.getElem_cons_zero, List.getElem_cons_succ, List.setIfInBounds_toArray, List.set_cons_zero, List.set_cons_succ]
        refine wpAnyZ_take (i := 17) (v := .bool true) [18, 20] rfl (by kernel_rfl) (by kernel_rfl) (by kernel_rfl) (by kernel_rfl) (fun _ _ _ h => h) (Or.inl ⟨by kernel_rfl, fun w' hSw => ?_⟩) hHeld ?_
        · have q0 := (hSw.cell (p := ⟨P, 0, none⟩) hPl hPX).trans p0
          have q1 := (hSw.cell (p := ⟨P, 1, none⟩) hPl hPX).trans p1
          have q2 := (hSw.cell (p := ⟨P, 2, none⟩) hPl hPX).trans p2
          have q3 := (hSw.cell (p := ⟨P, 3, none⟩) hPl hPX).trans p3
          have q4 := (hSw.cell (p := ⟨P, 4, none⟩) hPl hPX).trans p4
          have q5 := (hSw.cell (p := ⟨P, 5, none⟩) hPl hPX).trans p5
          have q6 := (hSw.cell (p := ⟨P, 6, none⟩) hPl hPX).trans p6
          have q8 := (hSw.cell (p := ⟨P, 8, none⟩) hPl hPX).trans p8
          have hq : P < w'.heap.size := Nat.lt_of_lt_of_le hPl hSw.size
          clear hHeld hSw
          go_simp
        simp only [Act.put, List.getElem_toArray, List.getElem_cons_zero, List.getElem_cons_succ, List.setIfInBounds_toArray, List.set_cons_zero, List.set_cons_succ]
        refine wpAnyZ_take (i := 18) (v := .bool true) [20] rfl (by kernel_rfl) (by kernel_rfl) (by kernel_rfl) (by kernel_rfl) (fun _ _ _ h => h) (Or.inl ⟨by kernel_rfl, fun w' hSw => ?_⟩) hHeld ?_
        · have q0 := (hSw.cell (p := ⟨P, 0, none⟩) hPl hPX).trans p0
          have q1 := (hSw.cell (p := ⟨P, 1, none⟩) hPl hPX).trans p1
          have q2 := (hSw.cell (p := ⟨P, 2, none⟩) hPl hPX).trans p2
          have q3 := (hSw.cell (p := ⟨P, 3, none⟩) hPl hPX).trans p3
          have q4 := (hSw.cell (p := ⟨P, 4, none⟩) hPl hPX).trans p4
          have q5 := (hSw.cell (p := ⟨P, 5, none⟩) hPl hPX).trans p5
          have q6 := (hSw.cell (p := ⟨P, 6, none⟩) hPl hPX).trans p6
          have q8 := (hSw.cell (p := ⟨P, 8, none⟩) hPl hPX).trans p8
          have hq : P < w'.heap.size := Nat.lt_of_lt_of_le hPl hSw.size
          clear hHeld hSw
          go_simp
        simp only [Act.put, List.getElem_toArray, List.getElem_cons_zero, List.getElem_cons_succ, List.setIfInBounds_toArray, List.set_cons_zero, List.set_cons_succ]
        refine wpAnyZ_one (i := 19) (by kernel_rfl) rfl (fun K' hK => ?_)
        go_simp
        obtain ⟨w7, hw7⟩ : ∃ W, W = ((((((((wr.setCell ⟨X + 1, 0, none⟩ (.int .i64 3)).setCell ⟨X + 1, 1, none⟩ (.int .i64 7)).setCell ⟨X + 1, 2, none⟩ (.int .i64 0)).setCell ⟨X + 1, 3, none⟩ (.int .i64 1440)).setCell ⟨X + 1, 4, none⟩ (.int .i64 100)).setCell ⟨X + 1, 5, none⟩ (.int .i64 1)).setCell ⟨X + 1, 6, none⟩ (.int .i64 10))).drew := ⟨_, rfl⟩
        rw [← hw7]
        have HM7 : Hid (Mod (fun j => j = X + 1) wr w7) := Lib.hid (by rw [hw7]; exact ((((((((show Mod (fun j => j = X + 1) wr wr from Mod.refl _ wr).setCell (p := ⟨X + 1, 0, none⟩) (.inl rfl) _).setCell (p := ⟨X + 1, 1, none⟩) (.inl rfl) _).setCell (p := ⟨X + 1, 2, none⟩) (.inl rfl) _).setCell (p := ⟨X + 1, 3, none⟩) (.inl rfl) _).setCell (p := ⟨X + 1, 4, none⟩) (.inl rfl) _).setCell (p := ⟨X + 1, 5, none⟩) (.inl rfl) _).setCell (p := ⟨X + 1, 6, none⟩) (.inl rfl) _).drew)
        have HN7 : Hid (Own w7 (X + 1) 49 7 (fun i => ([.int .i64 3, .int .i64 7, .int .i64 0, .int .i64 1440, .int .i64 100, .int .i64 1, .int .i64 10] : List Value)[i]?.getD undef)) := Lib.hid (by rw [hw7]; exact ((((((((HN.out.set 0 _).set 1 _).set 2 _).set 3 _).set 4 _).set 5 _).set 6 _).congr (fun i hi => by match i, hi with | 0, _ => rfl | 1, _ => rfl | 2, _ => rfl | 3, _ => rfl | 4, _ => rfl | 5, _ => rfl | 6, _ => rfl)).drew)
        clear hw7
        refine hK.out _ _ ?_ (fun hHeld' => ?_)
        · exact HM7.out
        clear hK K' hHeld
        have hHeld := hHeld'
        clear hHeld'
        try simp only [Act.put, List.getElem_toArray, List.getElem_cons_zero, List.getElem_cons_succ, List.setIfInBounds_toArray, List.set_cons_zero, List.set_cons_succ]
        refine wpAnyZ_take (i := 20) (v := .bool true) [] rfl (by kernel_rfl) (by kernel_rfl) (by kernel_rfl) (by kernel_rfl) (fun _ _ _ h => h) (Or.inl ⟨by kernel_rfl, fun w' hSw => ?_⟩) hHeld ?_
        · have q0 := (hSw.cell (p := ⟨P, 0, none⟩) hPl hPX).trans p0
          have q1 := (hSw.cell (p := ⟨P, 1, none⟩) hPl hPX).trans p1
          have q2 := (hSw.cell (p := ⟨P, 2, none⟩) hPl hPX).trans p2
          have q3 := (hSw.cell (p := ⟨P, 3, none⟩) hPl hPX).trans p3
          have q4 := (hSw.cell (p := ⟨P, 4, none⟩) hPl hPX).trans p4
          have q5 := (hSw.cell (p := ⟨P, 5, none⟩) hPl hPX).trans p5
          have q6 := (hSw.cell (p := ⟨P, 6, none⟩) hPl hPX).trans p6
          have q8 := (hSw.cell (p := ⟨P, 8, none⟩) hPl hPX).trans p8
          have hq : P < w'.heap.size := Nat.lt_of_lt_of_le hPl hSw.size
          clear hHeld hSw
          go_simp
        simp only [Act.put, List.getElem_toArray, List.getElem_cons_zero, List.getElem_cons_succ, List.setIfInBounds_toArray, List.set_cons_zero, List.set_cons_succ]
        refine wpAnyZ_done (by kernel_rfl) ?_ _
        go_wp2_with fail
        refine bodyPost_ret (results_ctT (a := 2) (t := 3) (ty := 49) (b := X + 1) (by kernel_rfl) rfl (load_art (HN7.out.cell (i := 0) (by omega)) (HN7.out.cell (i := 1) (by omega)) (HN7.out.cell (i := 2) (by omega)) (HN7.out.cell (i := 3) (by omega)) (HN7.out.cell (i := 4) (by omega)) (HN7.out.cell (i := 5) (by omega)) (HN7.out.cell (i := 6) (by omega)))) rfl ?_
        exact ⟨rfl, Lib.hid (((show Mod (fun q => q = X + 1) w wr from modB HB.out).trans HM7.out).below (Nat.le_refl _) (fun j h1 h2 => by have := HX.out; omega))⟩
      · go_simp
        obtain ⟨w7, hw7⟩ : ∃ W, W = ((((((((wr.setCell ⟨X + 1, 0, none⟩ (.int .i64 3)).setCell ⟨X + 1, 1, none⟩ (.int .i64 7)).setCell ⟨X + 1, 2, none⟩ (.int .i64 0)).setCell ⟨X + 1, 3, none⟩ (.int .i64 1440)).setCell ⟨X + 1, 4, none⟩ (.int .i64 100)).setCell ⟨X + 1, 5, none⟩ (.int .i64 1)).setCell ⟨X + 1, 6, none⟩ (.int .i64 10))).drew := ⟨_, rfl⟩
        rw [← hw7]
        have HM7 : Hid (Mod (fun j => j = X + 1) wr w7) := Lib.hid (by rw [hw7]; exact ((((((((show Mod (fun j => j = X + 1) wr wr from Mod.refl _ wr).setCell (p := ⟨X + 1, 0, none⟩) (.inl rfl) _).setCell (p := ⟨X + 1, 1, none⟩) (.inl rfl) _).setCell (p := ⟨X + 1, 2, none⟩) (.inl rfl) _).setCell (p := ⟨X + 1, 3, none⟩) (.inl rfl) _).setCell (p := ⟨X + 1, 4, none⟩) (.inl rfl) _).setCell (p := ⟨X + 1, 5, none⟩) (.inl rfl) _).setCell (p := ⟨X + 1, 6, none⟩) (.inl rfl) _).drew)
        have HN7 : Hid (Own w7 (X + 1) 49 7 (fun i => ([.int .i64 3, .int .i64 7, .int .i64 0, .int .i64 1440, .int .i64 100, .int .i64 1, .int .i64 10] : List Value)[i]?.getD undef)) := Lib.hid (by rw [hw7]; exact ((((((((HN.out.set 0 _).set 1 _).set 2 _).set 3 _).set 4 _).set 5 _).set 6 _).congr (fun i hi => by match i, hi with | 0, _ => rfl | 1, _ => rfl | 2, _ => rfl | 3, _ => rfl | 4, _ => rfl | 5, _ => rfl | 6, _ => rfl)).drew)
        clear hw7
        refine hK.out _ _ ?_ (fun hHeld' => ?_)
        · exact HM7.out
        clear hK K' hHeld
        have hHeld := hHeld'
        clear hHeld'
        try simp only [Act.put, List.getElem_toArray, List.getElem_cons_zero, List.getElem_cons_succ, List.setIfInBounds_toArray, List.set_cons_zero, List.set_cons_succ]
        refine wpAnyZ_take (i := 16) (v := .int .i64 3) [17, 18, 20] rfl (by kernel_rfl) (by kernel_rfl) (by kernel_rfl) (by kernel_rfl) (fun _ _ _ h => h) (Or.inl ⟨by kernel_rfl, fun w' hSw => ?_⟩) hHeld ?_
        · have q0 := (hSw.cell (p := ⟨P, 0, none⟩) hPl hPX).trans p0
          have q1 := (hSw.cell (p := ⟨P, 1, none⟩) hPl hPX).trans p1
          have q2 := (hSw.cell (p := ⟨P, 2, none⟩) hPl hPX).trans p2
          have q3 := (hSw.cell (p := ⟨P, 3, none⟩) hPl hPX).trans p3
          have q4 := (hSw.cell (p := ⟨P, 4, none⟩) hPl hPX).trans p4
          have q5 := (hSw.cell (p := ⟨P, 5, none⟩) hPl hPX).trans p5
          have q6 := (hSw.cell (p := ⟨P, 6, none⟩) hPl hPX).trans p6
          have q8 := (hSw.cell (p := ⟨P, 8, none⟩) hPl hPX).trans p8
          have hq : P < w'.heap.size := Nat.lt_of_lt_of_le hPl hSw.size
          clear hHeld hSw
          go_simp
        simp only [Act.put, List.getElem_toArray, List.getElem_cons_zero, List.getElem_cons_succ, List.setIfInBounds_toArray, List.set_cons_zero, List.set_cons_succ]
        refine wpAnyZ_take (i := 17) (v := .bool true) [18, 20] rfl (by kernel_rfl) (by kernel_rfl) (by kernel_rfl) (by kernel_rfl) (fun _ _ _ h => h) (Or.inl ⟨by kernel_rfl, fun w' hSw => ?_⟩) hHeld ?_
        · have q0 := (hSw.cell (p := ⟨P, 0, none⟩) hPl hPX).trans p0
          have q1 := (hSw.cell (p := ⟨P, 1, none⟩) hPl hPX).trans p1
          have q2 := (hSw.cell (p := ⟨P, 2, none⟩) hPl hPX).trans p2
          have q3 := (hSw.cell (p := ⟨P, 3, none⟩) hPl hPX).trans p3
          have q4 := (hSw.cell (p := ⟨P, 4, none⟩) hPl hPX).trans p4
          have q5 := (hSw.cell (p := ⟨P, 5, none⟩) hPl hPX).trans p5
          have q6 := (hSw.cell (p := ⟨P, 6, none⟩) hPl hPX).trans p6
          have q8 := (hSw.cell (p := ⟨P, 8, none⟩) hPl hPX).trans p8
          have hq : P < w'.heap.size := Nat.lt_of_lt_of_le hPl hSw.size
          clear hHeld hSw
          go_simp
        simp only [Act.put, List.getElem_toArray, List.getElem_cons_zero, List.getElem_cons_succ, List.setIfInBounds_toArray, List.set_cons_zero, List.set_cons_succ]
        refine wpAnyZ_take (i := 18) (v := .bool true) [20] rfl (by kernel_rfl) (by kernel_rfl) (by kernel_rfl) (by kernel_rfl) (fun _ _ _ h => h) (Or.inl ⟨by kernel_rfl, fun w' hSw => ?_⟩) hHeld ?_
        · have q0 := (hSw.cell (p := ⟨P, 0, none⟩) hPl hPX).trans p0
          have q1 := (hSw.cell (p := ⟨P, 1, none⟩) hPl hPX).trans p1
          have q2 := (hSw.cell (p := ⟨P, 2, none⟩) hPl hPX).trans p2
          have q3 := (hSw.cell (p := ⟨P, 3, none⟩) hPl hPX).trans p3
          have q4 := (hSw.cell (p := ⟨P, 4, none⟩) hPl hPX).trans p4
          have q5 := (hSw.cell (p := ⟨P, 5, none⟩) hPl hPX).trans p5
          have q6 := (hSw.cell (p := ⟨P, 6, none⟩) hPl hPX).trans p6
          have q8 := (hSw.cell (p := ⟨P, 8, none⟩) hPl hPX).trans p8
          have hq : P < w'.heap.size := Nat.lt_of_lt_of_le hPl hSw.size
          clear hHeld hSw
          go_simp
        simp only [Act.put, List.getElem_toArray, List.getElem_cons_zero, List.getElem_cons_succ, List.setIfInBounds_toArray, List.set_cons_zero, List.set_cons_succ]
        refine wpAnyZ_take (i := 20) (v := .bool true) [] rfl (by kernel_rfl) (by kernel_rfl) (by kernel_rfl) (by kernel_rfl) (fun _ _ _ h => h) (Or.inl ⟨by kernel_rfl, fun w' hSw => ?_⟩) hHeld ?_
        · have q0 := (hSw.cell (p := ⟨P, 0, none⟩) hPl hPX).trans p0
          have q1 := (hSw.cell (p := ⟨P, 1, none⟩) hPl hPX).trans p1
          have q2 := (hSw.cell (p := ⟨P, 2, none⟩) hPl hPX).trans p2
          have q3 := (hSw.cell (p := ⟨P, 3, none⟩) hPl hPX).trans p3
          have q4 := (hSw.cell (p := ⟨P, 4, none⟩) hPl hPX).trans p4
          have q5 := (hSw.cell (p := ⟨P, 5, none⟩) hPl hPX).trans p5
          have q6 := (hSw.cell (p := ⟨P, 6, none⟩) hPl hPX).trans p6
          have q8 := (hSw.cell (p := ⟨P, 8, none⟩) hPl hPX).trans p8
          have hq : P < w'.heap.size := Nat.lt_of_lt_of_le hPl hSw.size
          clear hHeld hSw
          go_simp
        simp only [Act.put, List.getElem_toArray, List.getElem_cons_zero, List.getElem_cons_succ, List.setIfInBounds_toArray, List.set_cons_zero, List.set_cons_succ]
        refine wpAnyZ_done (by kernel_rfl) ?_ _
        go_wp2_with fail
        refine bodyPost_ret (results_ctT (a := 2) (t := 3) (ty := 49) (b := X + 1) (by kernel_rfl) rfl (load_art (HN7.out.cell (i := 0) (by omega)) (HN7.out.cell (i := 1) (by omega)) (HN7.out.cell (i := 2) (by omega)) (HN7.out.cell (i := 3) (by omega)) (HN7.out.cell (i := 4) (by omega)) (HN7.out.cell (i := 5) (by omega)) (HN7.out.cell (i := 6) (by omega)))) rfl ?_
        exact ⟨rfl, Lib.hid (((show Mod (fun q => q = X + 1) w wr from modB HB.out).trans HM7.out).below (Nat.le_refl _) (fun j h1 h2 => by have := HX.out; omega))⟩
end Go.Proofs.YtoekpdnpncgeeaaGreat
