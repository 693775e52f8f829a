/-
Several texts in one: BuW, RegK, BuG.
-/
import Derived.Test.YtpkonifeieepfaaGreatGBuD
import Derived.Maps.RangeWalk
import Derived.Test.YtpkonifeieepfaaGreatGBase
import Derived.StillTailTactics
/-
site.Build: an item is whole.
-/
namespace Go.Proofs.YtpkonifeieepfaaGreat
open Go.RowKit
set_option linter.unusedVariables false
set_option linter.unusedSimpArgs false
theorem grown_below {w w' : World} (h : Below w.heap.size w w') : w.grownBy w' none := ⟨h.os, h.tape, h.output, h.size, fun i hi _ => h.block i hi⟩
theorem below_grown {w w' : World} {r : Nat} (h : w.grownBy w' (some r)) : Mod (fun j => j = r) w w' := ⟨h.os, h.tape, h.output, h.size, fun i hi hn => h.block i hi (fun e => hn (by injection e))⟩
theorem keyStr {key : Value} {kl : Lit} (h : keyOf Tryz.prog 9 key = some kl) : ∃ x : ByteArray, key = .string x ∧ kl = strL x ∧ x.size ≤ maxLen := by
  cases key <;> simp [keyOf, Tryz.underlying9, mapKey] at h
  obtain ⟨h1, h2⟩ := h
  exact ⟨_, rfl, h2.symm, h1⟩
/-- What makes an item whole: the rules that it needs are there, and its numbers fit. -/
def wholeOk (L : List RuleR) (kind : Int) (seen : List (List UInt8)) (s : RSt) : Prop := (∀ r ∈ L, r.ks.contains kind = true → r.opt = false → r.key.data.toList ∈ seen) ∧ [116, 104, 101, 114, 109, 97, 108] ∉ seen ∧ (kind = 5 → ampsB s.chg = true)
set_option maxRecDepth 100000 in
set_option maxHeartbeats 8000000 in
theorem stWhole_ok (hI : NH) (lr hr F Rr Bd hb nh Mb Sa Bb Sc : Nat) (s : RSt) (seen : List (List UInt8)) (w : World)
    (HR : Hid (RdgM w Rr Bd hI hb s)) (HU : Hid (RulesB w lr hr Mb (ruleT Sa Bb Sc))) (HH : Hid (SetM Tryz.prog 9 4 w hb nh (seen.map Lit.string))) (HW : Hid (wholeOk (ruleT Sa Bb Sc) hI.n seen s)) :
    Calls Tryz.prog 75 #[.pointer (some ⟨Rr, 0, none⟩), .map (some Mb)] w fun e w' => e = .returned (.tuple #[]) ∧ Below w.heap.size w w' := by
  obtain ⟨f, n0, ⟨hlr, hMh⟩, ⟨D, hown, hD⟩, hat, honly⟩ := HU.out
  have HOWN := Lib.hid hown
  have HD := Lib.hid hD
  have HAT := Lib.hid hat
  have HONLY := Lib.hid honly
  clear hown hD hat honly
  go_enter Tryz.func75, Tryz.ntmps75
  go_wp2_with (first | (at_range; refine wpList_range_own _ rfl _ 94 rfl 9 140 (Go.Maps.string_keyed Tryz.underlying9) Tryz.underlying94 _ Mb n0 D rfl HOWN.out ?_; intro w0 hrg0 hg0 hs0) | fail)
  obtain ⟨RR, hRR⟩ : ∃ r, r = w.heap.size := ⟨_, rfl⟩
  have HRG0 : Hid (w0.ranges Tryz.prog 9 rAny Mb RR n0 D (Maps.has D) (Maps.size D)) := Lib.hid (by rw [hRR]; exact hrg0)
  have HB0 : Hid (Mod (fun _ => False) w w0) := Lib.hid ⟨hg0.os, hg0.tape, hg0.output, hg0.size, fun i hi _ => hg0.block i hi (by simp)⟩
  have HRRW : Hid (RR = w.heap.size) := Lib.hid hRR
  rw [← hRR]
  clear hrg0 hg0 hs0 hRR
  go_frame
  go_loopg [] (Maps.size D) (fun g1 wr => ∃ (left : Lit → Bool) (cnt : Nat), cnt ≤ g1 ∧ Hid (Mod (fun _ => False) w wr) ∧ Hid (wr.ranges Tryz.prog 9 rAny Mb RR n0 D left cnt))
  case atStart => exact ⟨_, _, Nat.le_refl _, HB0, HRG0⟩
  case round =>
    obtain ⟨left, cnt, hcg, HMo, HRG⟩ := hrel
    go_wp2_with (first | (at_next; refine wpList_next_ranges _ rfl _ rfl 9 (Go.Maps.string_keyed Tryz.underlying9) rAny (fun x : ByteArray => Value.string x) (fun v : Value => v) (fun key kl h => by obtain ⟨x, h1, _⟩ := keyStr h; exact ⟨x, h1⟩) (fun v y _ => ⟨v, rfl⟩) Mb RR n0 D left cnt rfl HRG.out ?_ ?_) | fail)
    · intro hc0 hl0
      have HB : Hid (Below w.heap.size w wr) := Lib.hid (HMo.out.below (Nat.le_refl _) (fun j _ e => e.elim))
      have HR1 := Lib.hid (HR.out.keep HB.out HR.out.lt)
      have HH1 := Lib.hid (HH.out.keep HB.out)
      have r3 : wr.cell? ⟨Rr, 3, none⟩ = some (.int .i64 hI.n) := HR1.out.cell (i := 3) (by omega)
      have r6 : wr.cell? ⟨Rr, 6, none⟩ = some (.map (some hb)) := HR1.out.cell (i := 6) (by omega)
      have hRl : Rr < wr.heap.size := HR1.out.lt
      have HLT : Hid (∀ W, Below wr.heap.size wr W → (Instr.lookup 90 (.map (some hb)) (.string ⟨#[116, 104, 101, 114, 109, 97, 108]⟩) false).run Tryz.prog W = .ok (.bool false) W) := Lib.hid (fun W hbW => by
        have h := (HH1.out.keep hbW).look strK Tryz.underlying90 Tryz.underlying4 (by go_simp) (key := .string ⟨#[116, 104, 101, 114, 109, 97, 108]⟩) (kl := strL ⟨#[116, 104, 101, 114, 109, 97, 108]⟩) (WideMaps.keyOf_string_mk Tryz.underlying9 (by unfold maxLen; decide)) (by trivial)
        rw [show inS (seen.map Lit.string) (strL ⟨#[116, 104, 101, 114, 109, 97, 108]⟩) = false from by rw [Bool.eq_false_iff]; intro h2; exact HW.out.2.1 (inS_str.1 h2)] at h
        exact h)
      clear hc0 hl0
      go_upto_region 5 with (fail)
      by_cases h5 : hI.n = 5
      · have HAM : Hid (ampsB s.chg = true) := Lib.hid (HW.out.2.2 h5)
        have h5b : (hI.n == 5) = true := by simpa using h5
        obtain ⟨sc, hsc⟩ : ∃ c, c = s.chg := ⟨_, rfl⟩
        have c22 : wr.cell? ⟨Rr, 22, none⟩ = some (.string sc.name) := by rw [hsc]; exact HR1.out.cell (i := 22) (by omega)
        have c23 : wr.cell? ⟨Rr, 23, none⟩ = some (.int .i64 sc.place) := by rw [hsc]; exact HR1.out.cell (i := 23) (by omega)
        have c24 : wr.cell? ⟨Rr, 24, none⟩ = some (.int .i64 sc.ph) := by rw [hsc]; exact HR1.out.cell (i := 24) (by omega)
        have c25 : wr.cell? ⟨Rr, 25, none⟩ = some (.int .i64 sc.mn) := by rw [hsc]; exact HR1.out.cell (i := 25) (by omega)
        have c26 : wr.cell? ⟨Rr, 26, none⟩ = some (.int .i64 sc.mx) := by rw [hsc]; exact HR1.out.cell (i := 26) (by omega)
        have c27 : wr.cell? ⟨Rr, 27, none⟩ = some (.int .i64 sc.step) := by rw [hsc]; exact HR1.out.cell (i := 27) (by omega)
        have c28 : wr.cell? ⟨Rr, 28, none⟩ = some (.int .i64 sc.fb) := by rw [hsc]; exact HR1.out.cell (i := 28) (by omega)
        have c29 : wr.cell? ⟨Rr, 29, none⟩ = some (.int .i64 sc.own) := by rw [hsc]; exact HR1.out.cell (i := 29) (by omega)
        rw [← hsc] at HAM
        clear hsc
        have hlk := HLT.out wr (Below.refl _ _)
        go_wp2_with fail
        refine (stAmps_any sc wr).mono ?_
        rintro e W3 ⟨rfl, hW3⟩
        rw [HAM.out]
        have HB3 : Hid (Below w.heap.size w W3) := Lib.hid (by rw [hW3]; exact below_then HB.out ((Below.refl _ _).alloc (Nat.le_refl _) _))
        clear hW3
        go_wp2_with fail
        go_end0
        exact ⟨rfl, HB3.out⟩
      · have h5b : (hI.n == 5) = false := by simpa using h5
        have hlk := HLT.out wr (Below.refl _ _)
        go_wp2_with fail
        go_end0
        exact ⟨rfl, HB.out⟩
    · intro kx kv kl ya yb w1 cnt1 hkey hlk hv hat1 hrg1 hlt1 hg1 hs1 hen
      obtain ⟨kx2, hkk, hkl, hkz⟩ := keyStr hkey
      injection hkk with hkk
      subst hkk hkl
      have hfk : f (strL kx) = some kv := by
        have h1 := fun z : Value => ((HD.out (strL kx) (by trivial)).2 z).symm.trans (hat1 (.held z))
        unfold rAny at hv
        injection hv with hv
        injection hv with hv hv2
        cases hf : f (strL kx) with
        | none =>
          have h2 := h1 (.bool true)
          have h3 := h1 (.bool false)
          rw [hf] at h2 h3
          rw [← h3] at h2
          simp at h2
        | some v =>
          have h2 := h1 (.bool true)
          rw [hf, ← hv] at h2
          injection h2 with h2
          exact congrArg some h2
      obtain ⟨r, hrm, hre⟩ : ∃ r ∈ ruleT Sa Bb Sc, strL kx = strL r.key := by
        rcases HONLY.out (strL kx) (by trivial) with h | h
        · exact h
        · rw [hfk] at h; cases h
      obtain ⟨rA, rn, rc, hval, hrks, hrn, _⟩ := HAT.out r hrm
      rw [← hre, hfk] at hval
      injection hval with hval
      have hkr : kx.data.toList = r.key.data.toList := by unfold strL at hre; injection hre
      have hwh := HW.out.1 r hrm
      have hrn100 : rn ≤ 100 := by
        have h : r.ks.length ≤ 100 := by
          simp only [ruleT, ruleC, List.cons_append, List.nil_append, List.mem_cons, List.not_mem_nil, or_false] at hrm
          rcases hrm with h | h | h | h | h | h | h | h | h | h | h | h | h <;> (rw [h]; simp)
        omega
      obtain ⟨ro, hro⟩ : ∃ x, x = r.opt := ⟨_, rfl⟩
      obtain ⟨rF, hrF⟩ : ∃ x, x = r.FA := ⟨_, rfl⟩
      obtain ⟨rcs, hrcs⟩ : ∃ x, x = r.cs := ⟨_, rfl⟩
      obtain ⟨rks, hrks'⟩ : ∃ x, x = r.ks := ⟨_, rfl⟩
      rw [← hro, ← hrF, ← hrcs] at hval
      rw [← hrks'] at hrks hrn hwh
      rw [← hro, ← hkr] at hwh
      subst hval
      have HMo1 : Hid (Mod (fun _ => False) w w1) := Lib.hid (HMo.out.trans2 (below_grown hg1) (fun j hj e => by have := HRRW.out; omega))
      have HRG1 := Lib.hid hrg1
      have HWH := Lib.hid hwh
      have HRN := Lib.hid hrn
      have HRKw := Lib.hid hrks
      have HKZ := Lib.hid hkz
      clear hkey hlk hv hat1 hrg1 hg1 hs1 hfk hrm hre hrks hrn hkr hwh hro hrF hrcs hrks' hkz
      go_upto_region 3 with (fail)
      clear hen
      obtain ⟨W2, hW2⟩ : ∃ W, W = w1.alloc (.cells #[.slice rA rn rc, .bool ro, .func (.func rF) #[] rcs] 140) := ⟨_, rfl⟩
      obtain ⟨Z, hZ⟩ : ∃ Z, Z = w1.heap.size := ⟨_, rfl⟩
      have hb2 : Below w1.heap.size w1 W2 := by rw [hW2]; exact (Below.refl _ _).alloc (Nat.le_refl _) _
      have z0 : W2.cell? ⟨Z, 0, none⟩ = some (.slice rA rn rc) := by rw [hW2, hZ]; go_simp
      have z1 : W2.cell? ⟨Z, 1, none⟩ = some (.bool ro) := by rw [hW2, hZ]; go_simp
      have z2 : W2.cell? ⟨Z, 2, none⟩ = some (.func (.func rF) #[] rcs) := by rw [hW2, hZ]; go_simp
      have hZl : Z < W2.heap.size := by rw [hW2, hZ]; simp
      rw [← hW2, ← hZ]
      have HMo2 : Hid (Mod (fun _ => False) w W2) := Lib.hid (HMo1.out.trans (modB hb2))
      have HRG2 : Hid (W2.ranges Tryz.prog 9 rAny Mb RR n0 D (fun z => left z && !z.sameKey (strL kx)) cnt1) := Lib.hid (HRG1.out.kept (row := none) (grown_below hb2) (by simp) (by simp))
      clear hW2 hZ hb2
      have HB2 : Hid (Below w.heap.size w W2) := Lib.hid (HMo2.out.below (Nat.le_refl _) (fun j _ e => e.elim))
      have HR2 := Lib.hid (HR.out.keep HB2.out HR.out.lt)
      have HH2 := Lib.hid (HH.out.keep HB2.out)
      have HRK := Lib.hid (HRKw.out.keep HB2.out)
      have r3 : W2.cell? ⟨Rr, 3, none⟩ = some (.int .i64 hI.n) := HR2.out.cell (i := 3) (by omega)
      have r6 : W2.cell? ⟨Rr, 6, none⟩ = some (.map (some hb)) := HR2.out.cell (i := 6) (by omega)
      have hRl : Rr < W2.heap.size := HR2.out.lt
      by_cases hq : rks.contains hI.n = true
      · have HKC : Hid (rks.contains hI.n = true) := Lib.hid hq
        clear hq
        cases ro
        case true =>
          refine region_z (S := fun w' => Below W2.heap.size W2 w') [] (by kernel_rfl) (show Below W2.heap.size W2 W2.drew from below_drewN' W2) (fun hHeld => ?_)
          obtain ⟨wd, hwd⟩ : ∃ wd, wd = W2.drew := ⟨_, rfl⟩
          rw [← hwd] at hHeld ⊢
          clear hwd
          refine wpAnyZ_take (i := 0) (v := .agg #[.slice rA rn rc, .bool true, .func (.func rF) #[] rcs]) [] rfl (by kernel_rfl) (by kernel_rfl) (by kernel_rfl) (by kernel_rfl) (fun _ _ _ h => h) (Or.inl ⟨by kernel_rfl, fun w' hSw => ?_⟩) hHeld ?_
          · have s0 := (hSw.cell (p := ⟨Rr, 3, none⟩) hRl).trans r3
            have s1 : Rr < w'.heap.size := Nat.lt_of_lt_of_le hRl hSw.size
            have s2 := (hSw.cell (p := ⟨Z, 0, none⟩) hZl).trans z0
            have s3 := (hSw.cell (p := ⟨Z, 1, none⟩) hZl).trans z1
            have s4 := (hSw.cell (p := ⟨Z, 2, none⟩) hZl).trans z2
            have s5 : Z < w'.heap.size := Nat.lt_of_lt_of_le hZl hSw.size
            have s6 := (hSw.cell (p := ⟨Rr, 6, none⟩) hRl).trans r6
            clear hHeld hSw
            go_simp
          simp only [Act.put, List.getElem_toArray, List.getElem_cons_zero, List.getElem_cons_succ, List.setIfInBounds_toArray, List.set_cons_zero, List.set_cons_succ]
          refine wpAnyZ_take (i := 1) (v := .pointer (some ⟨Rr, 0, none⟩)) [] rfl (by kernel_rfl) (by kernel_rfl) (by kernel_rfl) (by kernel_rfl) (fun _ _ _ h => h) (Or.inl ⟨by kernel_rfl, fun w' hSw => ?_⟩) hHeld ?_
          · have s0 := (hSw.cell (p := ⟨Rr, 3, none⟩) hRl).trans r3
            have s1 : Rr < w'.heap.size := Nat.lt_of_lt_of_le hRl hSw.size
            have s2 := (hSw.cell (p := ⟨Z, 0, none⟩) hZl).trans z0
            have s3 := (hSw.cell (p := ⟨Z, 1, none⟩) hZl).trans z1
            have s4 := (hSw.cell (p := ⟨Z, 2, none⟩) hZl).trans z2
            have s5 : Z < w'.heap.size := Nat.lt_of_lt_of_le hZl hSw.size
            have s6 := (hSw.cell (p := ⟨Rr, 6, none⟩) hRl).trans r6
            clear hHeld hSw
            go_simp
          simp only [Act.put, List.getElem_toArray, List.getElem_cons_zero, List.getElem_cons_succ, List.setIfInBounds_toArray, List.set_cons_zero, List.set_cons_succ]
          refine wpAnyZ_take (i := 2) (v := .pointer (some ⟨Rr, 0, none⟩)) [] rfl (by kernel_rfl) (by kernel_rfl) (by kernel_rfl) (by kernel_rfl) (fun _ _ _ h => h) (Or.inl ⟨by kernel_rfl, fun w' hSw => ?_⟩) hHeld ?_
          · have s0 := (hSw.cell (p := ⟨Rr, 3, none⟩) hRl).trans r3
            have s1 : Rr < w'.heap.size := Nat.lt_of_lt_of_le hRl hSw.size
            have s2 := (hSw.cell (p := ⟨Z, 0, none⟩) hZl).trans z0
            have s3 := (hSw.cell (p := ⟨Z, 1, none⟩) hZl).trans z1
            have s4 := (hSw.cell (p := ⟨Z, 2, none⟩) hZl).trans z2
            have s5 : Z < w'.heap.size := Nat.lt_of_lt_of_le hZl hSw.size
            have s6 := (hSw.cell (p := ⟨Rr, 6, none⟩) hRl).trans r6
            clear hHeld hSw
            go_simp
          simp only [Act.put, List.getElem_toArray, List.getElem_cons_zero, List.getElem_cons_succ, List.setIfInBounds_toArray, List.set_cons_zero, List.set_cons_succ]
          refine wpAnyZ_take (i := 3) (v := .pointer (some ⟨Rr, 1, none⟩)) [] rfl (by kernel_rfl) (by kernel_rfl) (by kernel_rfl) (by kernel_rfl) (fun _ _ _ h => h) (Or.inl ⟨by kernel_rfl, fun w' hSw => ?_⟩) hHeld ?_
          · have s0 := (hSw.cell (p := ⟨Rr, 3, none⟩) hRl).trans r3
            have s1 : Rr < w'.heap.size := Nat.lt_of_lt_of_le hRl hSw.size
            have s2 := (hSw.cell (p := ⟨Z, 0, none⟩) hZl).trans z0
            have s3 := (hSw.cell (p := ⟨Z, 1, none⟩) hZl).trans z1
            have s4 := (hSw.cell (p := ⟨Z, 2, none⟩) hZl).trans z2
            have s5 : Z < w'.heap.size := Nat.lt_of_lt_of_le hZl hSw.size
            have s6 := (hSw.cell (p := ⟨Rr, 6, none⟩) hRl).trans r6
            clear hHeld hSw
            go_simp
          simp only [Act.put, List.getElem_toArray, List.getElem_cons_zero, List.getElem_cons_succ, List.setIfInBounds_toArray, List.set_cons_zero, List.set_cons_succ]
          refine wpAnyZ_take (i := 4) (v := .pointer (some ⟨Rr, 3, none⟩)) [] rfl (by kernel_rfl) (by kernel_rfl) (by kernel_rfl) (by kernel_rfl) (fun _ _ _ h => h) (Or.inl ⟨by kernel_rfl, fun w' hSw => ?_⟩) hHeld ?_
          · have s0 := (hSw.cell (p := ⟨Rr, 3, none⟩) hRl).trans r3
            have s1 : Rr < w'.heap.size := Nat.lt_of_lt_of_le hRl hSw.size
            have s2 := (hSw.cell (p := ⟨Z, 0, none⟩) hZl).trans z0
            have s3 := (hSw.cell (p := ⟨Z, 1, none⟩) hZl).trans z1
            have s4 := (hSw.cell (p := ⟨Z, 2, none⟩) hZl).trans z2
            have s5 : Z < w'.heap.size := Nat.lt_of_lt_of_le hZl hSw.size
            have s6 := (hSw.cell (p := ⟨Rr, 6, none⟩) hRl).trans r6
            clear hHeld hSw
            go_simp
          simp only [Act.put, List.getElem_toArray, List.getElem_cons_zero, List.getElem_cons_succ, List.setIfInBounds_toArray, List.set_cons_zero, List.set_cons_succ]
          refine wpAnyZ_take (i := 5) (v := .int .i64 hI.n) [] rfl (by kernel_rfl) (by kernel_rfl) (by kernel_rfl) (by kernel_rfl) (fun _ _ _ h => h) (Or.inl ⟨by kernel_rfl, fun w' hSw => ?_⟩) hHeld ?_
          · have s0 := (hSw.cell (p := ⟨Rr, 3, none⟩) hRl).trans r3
            have s1 : Rr < w'.heap.size := Nat.lt_of_lt_of_le hRl hSw.size
            have s2 := (hSw.cell (p := ⟨Z, 0, none⟩) hZl).trans z0
            have s3 := (hSw.cell (p := ⟨Z, 1, none⟩) hZl).trans z1
            have s4 := (hSw.cell (p := ⟨Z, 2, none⟩) hZl).trans z2
            have s5 : Z < w'.heap.size := Nat.lt_of_lt_of_le hZl hSw.size
            have s6 := (hSw.cell (p := ⟨Rr, 6, none⟩) hRl).trans r6
            clear hHeld hSw
            go_simp
          simp only [Act.put, List.getElem_toArray, List.getElem_cons_zero, List.getElem_cons_succ, List.setIfInBounds_toArray, List.set_cons_zero, List.set_cons_succ]
          refine wpAnyZ_one (i := 6) (by kernel_rfl) rfl (fun K' hK => ?_)
          go_simp
          refine (stOf_any rA rn rc (.bool true) (.func (.func rF) #[] rcs) rks hI.n wd (HRK.out.keep hHeld) HRN.out (by omega) ⟨true, rfl⟩ ⟨rF, #[], rcs, rfl⟩).mono ?_
          rintro e W3 ⟨rfl, hb3⟩
          rw [HKC.out]
          have hbb : Below W2.heap.size W2 W3 := below_then hHeld hb3
          clear hb3
          refine hK.out _ _ ?_ (fun hHeld' => ?_)
          · exact hbb
          clear hK K' hHeld hbb
          have hHeld := hHeld'
          clear hHeld'
          try simp only [Act.put, List.getElem_toArray, List.getElem_cons_zero, List.getElem_cons_succ, List.setIfInBounds_toArray, List.set_cons_zero, List.set_cons_succ]
          refine wpAnyZ_take (i := 7) (v := .bool true) [] rfl (by kernel_rfl) (by kernel_rfl) (by kernel_rfl) (by kernel_rfl) (fun _ _ _ h => h) (Or.inl ⟨by kernel_rfl, fun w' hSw => ?_⟩) hHeld ?_
          · have s0 := (hSw.cell (p := ⟨Rr, 3, none⟩) hRl).trans r3
            have s1 : Rr < w'.heap.size := Nat.lt_of_lt_of_le hRl hSw.size
            have s2 := (hSw.cell (p := ⟨Z, 0, none⟩) hZl).trans z0
            have s3 := (hSw.cell (p := ⟨Z, 1, none⟩) hZl).trans z1
            have s4 := (hSw.cell (p := ⟨Z, 2, none⟩) hZl).trans z2
            have s5 : Z < w'.heap.size := Nat.lt_of_lt_of_le hZl hSw.size
            have s6 := (hSw.cell (p := ⟨Rr, 6, none⟩) hRl).trans r6
            clear hHeld hSw
            go_simp
          simp only [Act.put, List.getElem_toArray, List.getElem_cons_zero, List.getElem_cons_succ, List.setIfInBounds_toArray, List.set_cons_zero, List.set_cons_succ]
          refine wpAnyZ_take (i := 8) (v := .pointer (some ⟨Z, 1, none⟩)) [] rfl (by kernel_rfl) (by kernel_rfl) (by kernel_rfl) (by kernel_rfl) (fun _ _ _ h => h) (Or.inl ⟨by kernel_rfl, fun w' hSw => ?_⟩) hHeld ?_
          · have s0 := (hSw.cell (p := ⟨Rr, 3, none⟩) hRl).trans r3
            have s1 : Rr < w'.heap.size := Nat.lt_of_lt_of_le hRl hSw.size
            have s2 := (hSw.cell (p := ⟨Z, 0, none⟩) hZl).trans z0
            have s3 := (hSw.cell (p := ⟨Z, 1, none⟩) hZl).trans z1
            have s4 := (hSw.cell (p := ⟨Z, 2, none⟩) hZl).trans z2
            have s5 : Z < w'.heap.size := Nat.lt_of_lt_of_le hZl hSw.size
            have s6 := (hSw.cell (p := ⟨Rr, 6, none⟩) hRl).trans r6
            clear hHeld hSw
            go_simp
          simp only [Act.put, List.getElem_toArray, List.getElem_cons_zero, List.getElem_cons_succ, List.setIfInBounds_toArray, List.set_cons_zero, List.set_cons_succ]
          refine wpAnyZ_take (i := 9) (v := .bool true) [] rfl (by kernel_rfl) (by kernel_rfl) (by kernel_rfl) (by kernel_rfl) (fun _ _ _ h => h) (Or.inl ⟨by kernel_rfl, fun w' hSw => ?_⟩) hHeld ?_
          · have s0 := (hSw.cell (p := ⟨Rr, 3, none⟩) hRl).trans r3
            have s1 : Rr < w'.heap.size := Nat.lt_of_lt_of_le hRl hSw.size
            have s2 := (hSw.cell (p := ⟨Z, 0, none⟩) hZl).trans z0
            have s3 := (hSw.cell (p := ⟨Z, 1, none⟩) hZl).trans z1
            have s4 := (hSw.cell (p := ⟨Z, 2, none⟩) hZl).trans z2
            have s5 : Z < w'.heap.size := Nat.lt_of_lt_of_le hZl hSw.size
            have s6 := (hSw.cell (p := ⟨Rr, 6, none⟩) hRl).trans r6
            clear hHeld hSw
            go_simp
          simp only [Act.put, List.getElem_toArray, List.getElem_cons_zero, List.getElem_cons_succ, List.setIfInBounds_toArray, List.set_cons_zero, List.set_cons_succ]
          refine wpAnyZ_take (i := 10) (v := .bool false) [] rfl (by kernel_rfl) (by kernel_rfl) (by kernel_rfl) (by kernel_rfl) (fun _ _ _ h => h) (Or.inl ⟨by kernel_rfl, fun w' hSw => ?_⟩) hHeld ?_
          · have s0 := (hSw.cell (p := ⟨Rr, 3, none⟩) hRl).trans r3
            have s1 : Rr < w'.heap.size := Nat.lt_of_lt_of_le hRl hSw.size
            have s2 := (hSw.cell (p := ⟨Z, 0, none⟩) hZl).trans z0
            have s3 := (hSw.cell (p := ⟨Z, 1, none⟩) hZl).trans z1
            have s4 := (hSw.cell (p := ⟨Z, 2, none⟩) hZl).trans z2
            have s5 : Z < w'.heap.size := Nat.lt_of_lt_of_le hZl hSw.size
            have s6 := (hSw.cell (p := ⟨Rr, 6, none⟩) hRl).trans r6
            clear hHeld hSw
            go_simp
          simp only [Act.put, List.getElem_toArray, List.getElem_cons_zero, List.getElem_cons_succ, List.setIfInBounds_toArray, List.set_cons_zero, List.set_cons_succ]
          refine wpAnyZ_take (i := 11) (v := .bool false) [] rfl (by kernel_rfl) (by kernel_rfl) (by kernel_rfl) (by kernel_rfl) (fun _ _ _ h => h) (Or.inl ⟨by kernel_rfl, fun w' hSw => ?_⟩) hHeld ?_
          · have s0 := (hSw.cell (p := ⟨Rr, 3, none⟩) hRl).trans r3
            have s1 : Rr < w'.heap.size := Nat.lt_of_lt_of_le hRl hSw.size
            have s2 := (hSw.cell (p := ⟨Z, 0, none⟩) hZl).trans z0
            have s3 := (hSw.cell (p := ⟨Z, 1, none⟩) hZl).trans z1
            have s4 := (hSw.cell (p := ⟨Z, 2, none⟩) hZl).trans z2
            have s5 : Z < w'.heap.size := Nat.lt_of_lt_of_le hZl hSw.size
            have s6 := (hSw.cell (p := ⟨Rr, 6, none⟩) hRl).trans r6
            clear hHeld hSw
            go_simp
          simp only [Act.put, List.getElem_toArray, List.getElem_cons_zero, List.getElem_cons_succ, List.setIfInBounds_toArray, List.set_cons_zero, List.set_cons_succ]
          refine wpAnyZ_take (i := 12) (v := .bool false) [] rfl (by kernel_rfl) (by kernel_rfl) (by kernel_rfl) (by kernel_rfl) (fun _ _ _ h => h) (Or.inl ⟨by kernel_rfl, fun w' hSw => ?_⟩) hHeld ?_
          · have s0 := (hSw.cell (p := ⟨Rr, 3, none⟩) hRl).trans r3
            have s1 : Rr < w'.heap.size := Nat.lt_of_lt_of_le hRl hSw.size
            have s2 := (hSw.cell (p := ⟨Z, 0, none⟩) hZl).trans z0
            have s3 := (hSw.cell (p := ⟨Z, 1, none⟩) hZl).trans z1
            have s4 := (hSw.cell (p := ⟨Z, 2, none⟩) hZl).trans z2
            have s5 : Z < w'.heap.size := Nat.lt_of_lt_of_le hZl hSw.size
            have s6 := (hSw.cell (p := ⟨Rr, 6, none⟩) hRl).trans r6
            clear hHeld hSw
            go_simp
          simp only [Act.put, List.getElem_toArray, List.getElem_cons_zero, List.getElem_cons_succ, List.setIfInBounds_toArray, List.set_cons_zero, List.set_cons_succ]
          refine wpAnyZ_take (i := 13) (v := undef) [] rfl (by kernel_rfl) (by kernel_rfl) (by kernel_rfl) (by kernel_rfl) (fun _ _ _ h => h) (Or.inr ⟨by kernel_rfl, rfl⟩) hHeld ?_
          simp only [Act.put, List.getElem_toArray, List.getElem_cons_zero, List.getElem_cons_succ, List.setIfInBounds_toArray, List.set_cons_zero, List.set_cons_succ]
          refine wpAnyZ_take (i := 14) (v := undef) [] rfl (by kernel_rfl) (by kernel_rfl) (by kernel_rfl) (by kernel_rfl) (fun _ _ _ h => h) (Or.inr ⟨by kernel_rfl, rfl⟩) hHeld ?_
          simp only [Act.put, List.getElem_toArray, List.getElem_cons_zero, List.getElem_cons_succ, List.setIfInBounds_toArray, List.set_cons_zero, List.set_cons_succ]
          refine wpAnyZ_take (i := 15) (v := undef) [] rfl (by kernel_rfl) (by kernel_rfl) (by kernel_rfl) (by kernel_rfl) (fun _ _ _ h => h) (Or.inr ⟨by kernel_rfl, rfl⟩) hHeld ?_
          simp only [Act.put, List.getElem_toArray, List.getElem_cons_zero, List.getElem_cons_succ, List.setIfInBounds_toArray, List.set_cons_zero, List.set_cons_succ]
          refine wpAnyZ_take (i := 16) (v := undef) [] rfl (by kernel_rfl) (by kernel_rfl) (by kernel_rfl) (by kernel_rfl) (fun _ _ _ h => h) (Or.inr ⟨by kernel_rfl, rfl⟩) hHeld ?_
          simp only [Act.put, List.getElem_toArray, List.getElem_cons_zero, List.getElem_cons_succ, List.setIfInBounds_toArray, List.set_cons_zero, List.set_cons_succ]
          refine wpAnyZ_take (i := 17) (v := undef) [] rfl (by kernel_rfl) (by kernel_rfl) (by kernel_rfl) (by kernel_rfl) (fun _ _ _ h => h) (Or.inr ⟨by kernel_rfl, rfl⟩) hHeld ?_
          simp only [Act.put, List.getElem_toArray, List.getElem_cons_zero, List.getElem_cons_succ, List.setIfInBounds_toArray, List.set_cons_zero, List.set_cons_succ]
          refine wpAnyZ_take (i := 18) (v := undef) [] rfl (by kernel_rfl) (by kernel_rfl) (by kernel_rfl) (by kernel_rfl) (fun _ _ _ h => h) (Or.inr ⟨by kernel_rfl, rfl⟩) hHeld ?_
          simp only [Act.put, List.getElem_toArray, List.getElem_cons_zero, List.getElem_cons_succ, List.setIfInBounds_toArray, List.set_cons_zero, List.set_cons_succ]
          refine wpAnyZ_take (i := 19) (v := undef) [] rfl (by kernel_rfl) (by kernel_rfl) (by kernel_rfl) (by kernel_rfl) (fun _ _ _ h => h) (Or.inr ⟨by kernel_rfl, rfl⟩) hHeld ?_
          simp only [Act.put, List.getElem_toArray, List.getElem_cons_zero, List.getElem_cons_succ, List.setIfInBounds_toArray, List.set_cons_zero, List.set_cons_succ]
          refine wpAnyZ_take (i := 20) (v := .bool false) [] rfl (by kernel_rfl) (by kernel_rfl) (by kernel_rfl) (by kernel_rfl) (fun _ _ _ h => h) (Or.inl ⟨by kernel_rfl, fun w' hSw => ?_⟩) hHeld ?_
          · have s0 := (hSw.cell (p := ⟨Rr, 3, none⟩) hRl).trans r3
            have s1 : Rr < w'.heap.size := Nat.lt_of_lt_of_le hRl hSw.size
            have s2 := (hSw.cell (p := ⟨Z, 0, none⟩) hZl).trans z0
            have s3 := (hSw.cell (p := ⟨Z, 1, none⟩) hZl).trans z1
            have s4 := (hSw.cell (p := ⟨Z, 2, none⟩) hZl).trans z2
            have s5 : Z < w'.heap.size := Nat.lt_of_lt_of_le hZl hSw.size
            have s6 := (hSw.cell (p := ⟨Rr, 6, none⟩) hRl).trans r6
            clear hHeld hSw
            go_simp
          simp only [Act.put, List.getElem_toArray, List.getElem_cons_zero, List.getElem_cons_succ, List.setIfInBounds_toArray, List.set_cons_zero, List.set_cons_succ]
          refine wpAnyZ_done (by kernel_rfl) ?_ _
          go_step
          go_step
          have HM3 : Hid (Mod (fun _ => False) w W3) := Lib.hid (HMo2.out.trans (modB hHeld))
          have HRG3 : Hid (W3.ranges Tryz.prog 9 rAny Mb RR n0 D (fun z => left z && !z.sameKey (strL kx)) cnt1) := Lib.hid (HRG2.out.kept (row := none) (grown_below hHeld) (by simp) (by simp))
          clear hHeld
          go_wp2_with fail
          go_roundg cnt1
          case measure => exact Nat.lt_of_lt_of_le hlt1 hcg
          case rel => exact ⟨_, cnt1, Nat.le_refl _, HM3, HRG3⟩
        case false =>
          have HLB : Hid (∀ W, Below W2.heap.size W2 W → (Instr.lookup 90 (.map (some hb)) (.string kx) false).run Tryz.prog W = .ok (.bool true) W) := Lib.hid (fun W hbW => by
            have h := (HH2.out.keep hbW).look strK Tryz.underlying90 Tryz.underlying4 (by go_simp) (key := .string kx) (kl := strL kx) (WideMaps.keyOf_string_mk Tryz.underlying9 HKZ.out) (by trivial)
            rw [inS_str.2 (HWH.out HKC.out rfl)] at h
            exact h)
          refine region_z (S := fun w' => Below W2.heap.size W2 w') [] (by kernel_rfl) (show Below W2.heap.size W2 W2.drew from below_drewN' W2) (fun hHeld => ?_)
          obtain ⟨wd, hwd⟩ : ∃ wd, wd = W2.drew := ⟨_, rfl⟩
          rw [← hwd] at hHeld ⊢
          clear hwd
          refine wpAnyZ_take (i := 0) (v := .agg #[.slice rA rn rc, .bool false, .func (.func rF) #[] rcs]) [] rfl (by kernel_rfl) (by kernel_rfl) (by kernel_rfl) (by kernel_rfl) (fun _ _ _ h => h) (Or.inl ⟨by kernel_rfl, fun w' hSw => ?_⟩) hHeld ?_
          · have s0 := (hSw.cell (p := ⟨Rr, 3, none⟩) hRl).trans r3
            have s1 : Rr < w'.heap.size := Nat.lt_of_lt_of_le hRl hSw.size
            have s2 := (hSw.cell (p := ⟨Z, 0, none⟩) hZl).trans z0
            have s3 := (hSw.cell (p := ⟨Z, 1, none⟩) hZl).trans z1
            have s4 := (hSw.cell (p := ⟨Z, 2, none⟩) hZl).trans z2
            have s5 : Z < w'.heap.size := Nat.lt_of_lt_of_le hZl hSw.size
            have s6 := (hSw.cell (p := ⟨Rr, 6, none⟩) hRl).trans r6
            clear hHeld hSw
            go_simp
          simp only [Act.put, List.getElem_toArray, List.getElem_cons_zero, List.getElem_cons_succ, List.setIfInBounds_toArray, List.set_cons_zero, List.set_cons_succ]
          refine wpAnyZ_take (i := 1) (v := .pointer (some ⟨Rr, 0, none⟩)) [] rfl (by kernel_rfl) (by kernel_rfl) (by kernel_rfl) (by kernel_rfl) (fun _ _ _ h => h) (Or.inl ⟨by kernel_rfl, fun w' hSw => ?_⟩) hHeld ?_
          · have s0 := (hSw.cell (p := ⟨Rr, 3, none⟩) hRl).trans r3
            have s1 : Rr < w'.heap.size := Nat.lt_of_lt_of_le hRl hSw.size
            have s2 := (hSw.cell (p := ⟨Z, 0, none⟩) hZl).trans z0
            have s3 := (hSw.cell (p := ⟨Z, 1, none⟩) hZl).trans z1
            have s4 := (hSw.cell (p := ⟨Z, 2, none⟩) hZl).trans z2
            have s5 : Z < w'.heap.size := Nat.lt_of_lt_of_le hZl hSw.size
            have s6 := (hSw.cell (p := ⟨Rr, 6, none⟩) hRl).trans r6
            clear hHeld hSw
            go_simp
          simp only [Act.put, List.getElem_toArray, List.getElem_cons_zero, List.getElem_cons_succ, List.setIfInBounds_toArray, List.set_cons_zero, List.set_cons_succ]
          refine wpAnyZ_take (i := 2) (v := .pointer (some ⟨Rr, 0, none⟩)) [] rfl (by kernel_rfl) (by kernel_rfl) (by kernel_rfl) (by kernel_rfl) (fun _ _ _ h => h) (Or.inl ⟨by kernel_rfl, fun w' hSw => ?_⟩) hHeld ?_
          · have s0 := (hSw.cell (p := ⟨Rr, 3, none⟩) hRl).trans r3
            have s1 : Rr < w'.heap.size := Nat.lt_of_lt_of_le hRl hSw.size
            have s2 := (hSw.cell (p := ⟨Z, 0, none⟩) hZl).trans z0
            have s3 := (hSw.cell (p := ⟨Z, 1, none⟩) hZl).trans z1
            have s4 := (hSw.cell (p := ⟨Z, 2, none⟩) hZl).trans z2
            have s5 : Z < w'.heap.size := Nat.lt_of_lt_of_le hZl hSw.size
            have s6 := (hSw.cell (p := ⟨Rr, 6, none⟩) hRl).trans r6
            clear hHeld hSw
            go_simp
          simp only [Act.put, List.getElem_toArray, List.getElem_cons_zero, List.getElem_cons_succ, List.setIfInBounds_toArray, List.set_cons_zero, List.set_cons_succ]
          refine wpAnyZ_take (i := 3) (v := .pointer (some ⟨Rr, 1, none⟩)) [] rfl (by kernel_rfl) (by kernel_rfl) (by kernel_rfl) (by kernel_rfl) (fun _ _ _ h => h) (Or.inl ⟨by kernel_rfl, fun w' hSw => ?_⟩) hHeld ?_
          · have s0 := (hSw.cell (p := ⟨Rr, 3, none⟩) hRl).trans r3
            have s1 : Rr < w'.heap.size := Nat.lt_of_lt_of_le hRl hSw.size
            have s2 := (hSw.cell (p := ⟨Z, 0, none⟩) hZl).trans z0
            have s3 := (hSw.cell (p := ⟨Z, 1, none⟩) hZl).trans z1
            have s4 := (hSw.cell (p := ⟨Z, 2, none⟩) hZl).trans z2
            have s5 : Z < w'.heap.size := Nat.lt_of_lt_of_le hZl hSw.size
            have s6 := (hSw.cell (p := ⟨Rr, 6, none⟩) hRl).trans r6
            clear hHeld hSw
            go_simp
          simp only [Act.put, List.getElem_toArray, List.getElem_cons_zero, List.getElem_cons_succ, List.setIfInBounds_toArray, List.set_cons_zero, List.set_cons_succ]
          refine wpAnyZ_take (i := 4) (v := .pointer (some ⟨Rr, 3, none⟩)) [] rfl (by kernel_rfl) (by kernel_rfl) (by kernel_rfl) (by kernel_rfl) (fun _ _ _ h => h) (Or.inl ⟨by kernel_rfl, fun w' hSw => ?_⟩) hHeld ?_
          · have s0 := (hSw.cell (p := ⟨Rr, 3, none⟩) hRl).trans r3
            have s1 : Rr < w'.heap.size := Nat.lt_of_lt_of_le hRl hSw.size
            have s2 := (hSw.cell (p := ⟨Z, 0, none⟩) hZl).trans z0
            have s3 := (hSw.cell (p := ⟨Z, 1, none⟩) hZl).trans z1
            have s4 := (hSw.cell (p := ⟨Z, 2, none⟩) hZl).trans z2
            have s5 : Z < w'.heap.size := Nat.lt_of_lt_of_le hZl hSw.size
            have s6 := (hSw.cell (p := ⟨Rr, 6, none⟩) hRl).trans r6
            clear hHeld hSw
            go_simp
          simp only [Act.put, List.getElem_toArray, List.getElem_cons_zero, List.getElem_cons_succ, List.setIfInBounds_toArray, List.set_cons_zero, List.set_cons_succ]
          refine wpAnyZ_take (i := 5) (v := .int .i64 hI.n) [] rfl (by kernel_rfl) (by kernel_rfl) (by kernel_rfl) (by kernel_rfl) (fun _ _ _ h => h) (Or.inl ⟨by kernel_rfl, fun w' hSw => ?_⟩) hHeld ?_
          · have s0 := (hSw.cell (p := ⟨Rr, 3, none⟩) hRl).trans r3
            have s1 : Rr < w'.heap.size := Nat.lt_of_lt_of_le hRl hSw.size
            have s2 := (hSw.cell (p := ⟨Z, 0, none⟩) hZl).trans z0
            have s3 := (hSw.cell (p := ⟨Z, 1, none⟩) hZl).trans z1
            have s4 := (hSw.cell (p := ⟨Z, 2, none⟩) hZl).trans z2
            have s5 : Z < w'.heap.size := Nat.lt_of_lt_of_le hZl hSw.size
            have s6 := (hSw.cell (p := ⟨Rr, 6, none⟩) hRl).trans r6
            clear hHeld hSw
            go_simp
          simp only [Act.put, List.getElem_toArray, List.getElem_cons_zero, List.getElem_cons_succ, List.setIfInBounds_toArray, List.set_cons_zero, List.set_cons_succ]
          refine wpAnyZ_one (i := 6) (by kernel_rfl) rfl (fun K' hK => ?_)
          go_simp
          refine (stOf_any rA rn rc (.bool false) (.func (.func rF) #[] rcs) rks hI.n wd (HRK.out.keep hHeld) HRN.out (by omega) ⟨false, rfl⟩ ⟨rF, #[], rcs, rfl⟩).mono ?_
          rintro e W3 ⟨rfl, hb3⟩
          rw [HKC.out]
          have hbb : Below W2.heap.size W2 W3 := below_then hHeld hb3
          clear hb3
          refine hK.out _ _ ?_ (fun hHeld' => ?_)
          · exact hbb
          clear hK K' hHeld hbb
          have hHeld := hHeld'
          clear hHeld'
          try simp only [Act.put, List.getElem_toArray, List.getElem_cons_zero, List.getElem_cons_succ, List.setIfInBounds_toArray, List.set_cons_zero, List.set_cons_succ]
          refine wpAnyZ_take (i := 7) (v := .bool true) [] rfl (by kernel_rfl) (by kernel_rfl) (by kernel_rfl) (by kernel_rfl) (fun _ _ _ h => h) (Or.inl ⟨by kernel_rfl, fun w' hSw => ?_⟩) hHeld ?_
          · have s0 := (hSw.cell (p := ⟨Rr, 3, none⟩) hRl).trans r3
            have s1 : Rr < w'.heap.size := Nat.lt_of_lt_of_le hRl hSw.size
            have s2 := (hSw.cell (p := ⟨Z, 0, none⟩) hZl).trans z0
            have s3 := (hSw.cell (p := ⟨Z, 1, none⟩) hZl).trans z1
            have s4 := (hSw.cell (p := ⟨Z, 2, none⟩) hZl).trans z2
            have s5 : Z < w'.heap.size := Nat.lt_of_lt_of_le hZl hSw.size
            have s6 := (hSw.cell (p := ⟨Rr, 6, none⟩) hRl).trans r6
            clear hHeld hSw
            go_simp
          simp only [Act.put, List.getElem_toArray, List.getElem_cons_zero, List.getElem_cons_succ, List.setIfInBounds_toArray, List.set_cons_zero, List.set_cons_succ]
          refine wpAnyZ_take (i := 8) (v := .pointer (some ⟨Z, 1, none⟩)) [] rfl (by kernel_rfl) (by kernel_rfl) (by kernel_rfl) (by kernel_rfl) (fun _ _ _ h => h) (Or.inl ⟨by kernel_rfl, fun w' hSw => ?_⟩) hHeld ?_
          · have s0 := (hSw.cell (p := ⟨Rr, 3, none⟩) hRl).trans r3
            have s1 : Rr < w'.heap.size := Nat.lt_of_lt_of_le hRl hSw.size
            have s2 := (hSw.cell (p := ⟨Z, 0, none⟩) hZl).trans z0
            have s3 := (hSw.cell (p := ⟨Z, 1, none⟩) hZl).trans z1
            have s4 := (hSw.cell (p := ⟨Z, 2, none⟩) hZl).trans z2
            have s5 : Z < w'.heap.size := Nat.lt_of_lt_of_le hZl hSw.size
            have s6 := (hSw.cell (p := ⟨Rr, 6, none⟩) hRl).trans r6
            clear hHeld hSw
            go_simp
          simp only [Act.put, List.getElem_toArray, List.getElem_cons_zero, List.getElem_cons_succ, List.setIfInBounds_toArray, List.set_cons_zero, List.set_cons_succ]
          refine wpAnyZ_take (i := 9) (v := .bool false) [] rfl (by kernel_rfl) (by kernel_rfl) (by kernel_rfl) (by kernel_rfl) (fun _ _ _ h => h) (Or.inl ⟨by kernel_rfl, fun w' hSw => ?_⟩) hHeld ?_
          · have s0 := (hSw.cell (p := ⟨Rr, 3, none⟩) hRl).trans r3
            have s1 : Rr < w'.heap.size := Nat.lt_of_lt_of_le hRl hSw.size
            have s2 := (hSw.cell (p := ⟨Z, 0, none⟩) hZl).trans z0
            have s3 := (hSw.cell (p := ⟨Z, 1, none⟩) hZl).trans z1
            have s4 := (hSw.cell (p := ⟨Z, 2, none⟩) hZl).trans z2
            have s5 : Z < w'.heap.size := Nat.lt_of_lt_of_le hZl hSw.size
            have s6 := (hSw.cell (p := ⟨Rr, 6, none⟩) hRl).trans r6
            clear hHeld hSw
            go_simp
          simp only [Act.put, List.getElem_toArray, List.getElem_cons_zero, List.getElem_cons_succ, List.setIfInBounds_toArray, List.set_cons_zero, List.set_cons_succ]
          refine wpAnyZ_take (i := 10) (v := .bool true) [] rfl (by kernel_rfl) (by kernel_rfl) (by kernel_rfl) (by kernel_rfl) (fun _ _ _ h => h) (Or.inl ⟨by kernel_rfl, fun w' hSw => ?_⟩) hHeld ?_
          · have s0 := (hSw.cell (p := ⟨Rr, 3, none⟩) hRl).trans r3
            have s1 : Rr < w'.heap.size := Nat.lt_of_lt_of_le hRl hSw.size
            have s2 := (hSw.cell (p := ⟨Z, 0, none⟩) hZl).trans z0
            have s3 := (hSw.cell (p := ⟨Z, 1, none⟩) hZl).trans z1
            have s4 := (hSw.cell (p := ⟨Z, 2, none⟩) hZl).trans z2
            have s5 : Z < w'.heap.size := Nat.lt_of_lt_of_le hZl hSw.size
            have s6 := (hSw.cell (p := ⟨Rr, 6, none⟩) hRl).trans r6
            clear hHeld hSw
            go_simp
          simp only [Act.put, List.getElem_toArray, List.getElem_cons_zero, List.getElem_cons_succ, List.setIfInBounds_toArray, List.set_cons_zero, List.set_cons_succ]
          refine wpAnyZ_take (i := 11) (v := .bool true) [] rfl (by kernel_rfl) (by kernel_rfl) (by kernel_rfl) (by kernel_rfl) (fun _ _ _ h => h) (Or.inl ⟨by kernel_rfl, fun w' hSw => ?_⟩) hHeld ?_
          · have s0 := (hSw.cell (p := ⟨Rr, 3, none⟩) hRl).trans r3
            have s1 : Rr < w'.heap.size := Nat.lt_of_lt_of_le hRl hSw.size
            have s2 := (hSw.cell (p := ⟨Z, 0, none⟩) hZl).trans z0
            have s3 := (hSw.cell (p := ⟨Z, 1, none⟩) hZl).trans z1
            have s4 := (hSw.cell (p := ⟨Z, 2, none⟩) hZl).trans z2
            have s5 : Z < w'.heap.size := Nat.lt_of_lt_of_le hZl hSw.size
            have s6 := (hSw.cell (p := ⟨Rr, 6, none⟩) hRl).trans r6
            clear hHeld hSw
            go_simp
          simp only [Act.put, List.getElem_toArray, List.getElem_cons_zero, List.getElem_cons_succ, List.setIfInBounds_toArray, List.set_cons_zero, List.set_cons_succ]
          refine wpAnyZ_take (i := 12) (v := .bool true) [] rfl (by kernel_rfl) (by kernel_rfl) (by kernel_rfl) (by kernel_rfl) (fun _ _ _ h => h) (Or.inl ⟨by kernel_rfl, fun w' hSw => ?_⟩) hHeld ?_
          · have s0 := (hSw.cell (p := ⟨Rr, 3, none⟩) hRl).trans r3
            have s1 : Rr < w'.heap.size := Nat.lt_of_lt_of_le hRl hSw.size
            have s2 := (hSw.cell (p := ⟨Z, 0, none⟩) hZl).trans z0
            have s3 := (hSw.cell (p := ⟨Z, 1, none⟩) hZl).trans z1
            have s4 := (hSw.cell (p := ⟨Z, 2, none⟩) hZl).trans z2
            have s5 : Z < w'.heap.size := Nat.lt_of_lt_of_le hZl hSw.size
            have s6 := (hSw.cell (p := ⟨Rr, 6, none⟩) hRl).trans r6
            clear hHeld hSw
            go_simp
          simp only [Act.put, List.getElem_toArray, List.getElem_cons_zero, List.getElem_cons_succ, List.setIfInBounds_toArray, List.set_cons_zero, List.set_cons_succ]
          refine wpAnyZ_take (i := 13) (v := .pointer (some ⟨Rr, 0, none⟩)) [] rfl (by kernel_rfl) (by kernel_rfl) (by kernel_rfl) (by kernel_rfl) (fun _ _ _ h => h) (Or.inl ⟨by kernel_rfl, fun w' hSw => ?_⟩) hHeld ?_
          · have s0 := (hSw.cell (p := ⟨Rr, 3, none⟩) hRl).trans r3
            have s1 : Rr < w'.heap.size := Nat.lt_of_lt_of_le hRl hSw.size
            have s2 := (hSw.cell (p := ⟨Z, 0, none⟩) hZl).trans z0
            have s3 := (hSw.cell (p := ⟨Z, 1, none⟩) hZl).trans z1
            have s4 := (hSw.cell (p := ⟨Z, 2, none⟩) hZl).trans z2
            have s5 : Z < w'.heap.size := Nat.lt_of_lt_of_le hZl hSw.size
            have s6 := (hSw.cell (p := ⟨Rr, 6, none⟩) hRl).trans r6
            have s7 : (Instr.lookup 90 (.map (some hb)) (.string kx) false).run Tryz.prog w' = .ok (.bool true) w' := HLB.out w' hSw
            clear hHeld hSw
            go_simp
          simp only [Act.put, List.getElem_toArray, List.getElem_cons_zero, List.getElem_cons_succ, List.setIfInBounds_toArray, List.set_cons_zero, List.set_cons_succ]
          refine wpAnyZ_take (i := 14) (v := .pointer (some ⟨Rr, 0, none⟩)) [] rfl (by kernel_rfl) (by kernel_rfl) (by kernel_rfl) (by kernel_rfl) (fun _ _ _ h => h) (Or.inl ⟨by kernel_rfl, fun w' hSw => ?_⟩) hHeld ?_
          · have s0 := (hSw.cell (p := ⟨Rr, 3, none⟩) hRl).trans r3
            have s1 : Rr < w'.heap.size := Nat.lt_of_lt_of_le hRl hSw.size
            have s2 := (hSw.cell (p := ⟨Z, 0, none⟩) hZl).trans z0
            have s3 := (hSw.cell (p := ⟨Z, 1, none⟩) hZl).trans z1
            have s4 := (hSw.cell (p := ⟨Z, 2, none⟩) hZl).trans z2
            have s5 : Z < w'.heap.size := Nat.lt_of_lt_of_le hZl hSw.size
            have s6 := (hSw.cell (p := ⟨Rr, 6, none⟩) hRl).trans r6
            have s7 : (Instr.lookup 90 (.map (some hb)) (.string kx) false).run Tryz.prog w' = .ok (.bool true) w' := HLB.out w' hSw
            clear hHeld hSw
            go_simp
          simp only [Act.put, List.getElem_toArray, List.getElem_cons_zero, List.getElem_cons_succ, List.setIfInBounds_toArray, List.set_cons_zero, List.set_cons_succ]
          refine wpAnyZ_take (i := 15) (v := .pointer (some ⟨Rr, 6, none⟩)) [] rfl (by kernel_rfl) (by kernel_rfl) (by kernel_rfl) (by kernel_rfl) (fun _ _ _ h => h) (Or.inl ⟨by kernel_rfl, fun w' hSw => ?_⟩) hHeld ?_
          · have s0 := (hSw.cell (p := ⟨Rr, 3, none⟩) hRl).trans r3
            have s1 : Rr < w'.heap.size := Nat.lt_of_lt_of_le hRl hSw.size
            have s2 := (hSw.cell (p := ⟨Z, 0, none⟩) hZl).trans z0
            have s3 := (hSw.cell (p := ⟨Z, 1, none⟩) hZl).trans z1
            have s4 := (hSw.cell (p := ⟨Z, 2, none⟩) hZl).trans z2
            have s5 : Z < w'.heap.size := Nat.lt_of_lt_of_le hZl hSw.size
            have s6 := (hSw.cell (p := ⟨Rr, 6, none⟩) hRl).trans r6
            have s7 : (Instr.lookup 90 (.map (some hb)) (.string kx) false).run Tryz.prog w' = .ok (.bool true) w' := HLB.out w' hSw
            clear hHeld hSw
            go_simp
          simp only [Act.put, List.getElem_toArray, List.getElem_cons_zero, List.getElem_cons_succ, List.setIfInBounds_toArray, List.set_cons_zero, List.set_cons_succ]
          refine wpAnyZ_take (i := 16) (v := .map (some hb)) [] rfl (by kernel_rfl) (by kernel_rfl) (by kernel_rfl) (by kernel_rfl) (fun _ _ _ h => h) (Or.inl ⟨by kernel_rfl, fun w' hSw => ?_⟩) hHeld ?_
          · have s0 := (hSw.cell (p := ⟨Rr, 3, none⟩) hRl).trans r3
            have s1 : Rr < w'.heap.size := Nat.lt_of_lt_of_le hRl hSw.size
            have s2 := (hSw.cell (p := ⟨Z, 0, none⟩) hZl).trans z0
            have s3 := (hSw.cell (p := ⟨Z, 1, none⟩) hZl).trans z1
            have s4 := (hSw.cell (p := ⟨Z, 2, none⟩) hZl).trans z2
            have s5 : Z < w'.heap.size := Nat.lt_of_lt_of_le hZl hSw.size
            have s6 := (hSw.cell (p := ⟨Rr, 6, none⟩) hRl).trans r6
            have s7 : (Instr.lookup 90 (.map (some hb)) (.string kx) false).run Tryz.prog w' = .ok (.bool true) w' := HLB.out w' hSw
            clear hHeld hSw
            go_simp
          simp only [Act.put, List.getElem_toArray, List.getElem_cons_zero, List.getElem_cons_succ, List.setIfInBounds_toArray, List.set_cons_zero, List.set_cons_succ]
          refine wpAnyZ_take (i := 17) (v := .string kx) [] rfl (by kernel_rfl) (by kernel_rfl) (by kernel_rfl) (by kernel_rfl) (fun _ _ _ h => h) (Or.inl ⟨by kernel_rfl, fun w' hSw => ?_⟩) hHeld ?_
          · have s0 := (hSw.cell (p := ⟨Rr, 3, none⟩) hRl).trans r3
            have s1 : Rr < w'.heap.size := Nat.lt_of_lt_of_le hRl hSw.size
            have s2 := (hSw.cell (p := ⟨Z, 0, none⟩) hZl).trans z0
            have s3 := (hSw.cell (p := ⟨Z, 1, none⟩) hZl).trans z1
            have s4 := (hSw.cell (p := ⟨Z, 2, none⟩) hZl).trans z2
            have s5 : Z < w'.heap.size := Nat.lt_of_lt_of_le hZl hSw.size
            have s6 := (hSw.cell (p := ⟨Rr, 6, none⟩) hRl).trans r6
            have s7 : (Instr.lookup 90 (.map (some hb)) (.string kx) false).run Tryz.prog w' = .ok (.bool true) w' := HLB.out w' hSw
            clear hHeld hSw
            go_simp
          simp only [Act.put, List.getElem_toArray, List.getElem_cons_zero, List.getElem_cons_succ, List.setIfInBounds_toArray, List.set_cons_zero, List.set_cons_succ]
          refine wpAnyZ_take (i := 18) (v := .bool true) [] rfl (by kernel_rfl) (by kernel_rfl) (by kernel_rfl) (by kernel_rfl) (fun _ _ _ h => h) (Or.inl ⟨by kernel_rfl, fun w' hSw => ?_⟩) hHeld ?_
          · have s0 := (hSw.cell (p := ⟨Rr, 3, none⟩) hRl).trans r3
            have s1 : Rr < w'.heap.size := Nat.lt_of_lt_of_le hRl hSw.size
            have s2 := (hSw.cell (p := ⟨Z, 0, none⟩) hZl).trans z0
            have s3 := (hSw.cell (p := ⟨Z, 1, none⟩) hZl).trans z1
            have s4 := (hSw.cell (p := ⟨Z, 2, none⟩) hZl).trans z2
            have s5 : Z < w'.heap.size := Nat.lt_of_lt_of_le hZl hSw.size
            have s6 := (hSw.cell (p := ⟨Rr, 6, none⟩) hRl).trans r6
            have s7 : (Instr.lookup 90 (.map (some hb)) (.string kx) false).run Tryz.prog w' = .ok (.bool true) w' := HLB.out w' hSw
            clear hHeld hSw
            go_simp
          simp only [Act.put, List.getElem_toArray, List.getElem_cons_zero, List.getElem_cons_succ, List.setIfInBounds_toArray, List.set_cons_zero, List.set_cons_succ]
          refine wpAnyZ_take (i := 19) (v := .bool false) [] rfl (by kernel_rfl) (by kernel_rfl) (by kernel_rfl) (by kernel_rfl) (fun _ _ _ h => h) (Or.inl ⟨by kernel_rfl, fun w' hSw => ?_⟩) hHeld ?_
          · have s0 := (hSw.cell (p := ⟨Rr, 3, none⟩) hRl).trans r3
            have s1 : Rr < w'.heap.size := Nat.lt_of_lt_of_le hRl hSw.size
            have s2 := (hSw.cell (p := ⟨Z, 0, none⟩) hZl).trans z0
            have s3 := (hSw.cell (p := ⟨Z, 1, none⟩) hZl).trans z1
            have s4 := (hSw.cell (p := ⟨Z, 2, none⟩) hZl).trans z2
            have s5 : Z < w'.heap.size := Nat.lt_of_lt_of_le hZl hSw.size
            have s6 := (hSw.cell (p := ⟨Rr, 6, none⟩) hRl).trans r6
            have s7 : (Instr.lookup 90 (.map (some hb)) (.string kx) false).run Tryz.prog w' = .ok (.bool true) w' := HLB.out w' hSw
            clear hHeld hSw
            go_simp
          simp only [Act.put, List.getElem_toArray, List.getElem_cons_zero, List.getElem_cons_succ, List.setIfInBounds_toArray, List.set_cons_zero, List.set_cons_succ]
          refine wpAnyZ_take (i := 20) (v := .bool false) [] rfl (by kernel_rfl) (by kernel_rfl) (by kernel_rfl) (by kernel_rfl) (fun _ _ _ h => h) (Or.inl ⟨by kernel_rfl, fun w' hSw => ?_⟩) hHeld ?_
          · have s0 := (hSw.cell (p := ⟨Rr, 3, none⟩) hRl).trans r3
            have s1 : Rr < w'.heap.size := Nat.lt_of_lt_of_le hRl hSw.size
            have s2 := (hSw.cell (p := ⟨Z, 0, none⟩) hZl).trans z0
            have s3 := (hSw.cell (p := ⟨Z, 1, none⟩) hZl).trans z1
            have s4 := (hSw.cell (p := ⟨Z, 2, none⟩) hZl).trans z2
            have s5 : Z < w'.heap.size := Nat.lt_of_lt_of_le hZl hSw.size
            have s6 := (hSw.cell (p := ⟨Rr, 6, none⟩) hRl).trans r6
            clear hHeld hSw
            go_simp
          simp only [Act.put, List.getElem_toArray, List.getElem_cons_zero, List.getElem_cons_succ, List.setIfInBounds_toArray, List.set_cons_zero, List.set_cons_succ]
          refine wpAnyZ_done (by kernel_rfl) ?_ _
          go_step
          go_step
          have HM3 : Hid (Mod (fun _ => False) w W3) := Lib.hid (HMo2.out.trans (modB hHeld))
          have HRG3 : Hid (W3.ranges Tryz.prog 9 rAny Mb RR n0 D (fun z => left z && !z.sameKey (strL kx)) cnt1) := Lib.hid (HRG2.out.kept (row := none) (grown_below hHeld) (by simp) (by simp))
          clear hHeld
          go_wp2_with fail
          go_roundg cnt1
          case measure => exact Nat.lt_of_lt_of_le hlt1 hcg
          case rel => exact ⟨_, cnt1, Nat.le_refl _, HM3, HRG3⟩
      · have HKC : Hid (rks.contains hI.n = false) := Lib.hid (by simpa using hq)
        clear hq
        refine region_z (S := fun w' => Below W2.heap.size W2 w') [] (by kernel_rfl) (show Below W2.heap.size W2 W2.drew from below_drewN' W2) (fun hHeld => ?_)
        obtain ⟨wd, hwd⟩ : ∃ wd, wd = W2.drew := ⟨_, rfl⟩
        rw [← hwd] at hHeld ⊢
        clear hwd
        refine wpAnyZ_take (i := 0) (v := .agg #[.slice rA rn rc, .bool ro, .func (.func rF) #[] rcs]) [] rfl (by kernel_rfl) (by kernel_rfl) (by kernel_rfl) (by kernel_rfl) (fun _ _ _ h => h) (Or.inl ⟨by kernel_rfl, fun w' hSw => ?_⟩) hHeld ?_
        · have s0 := (hSw.cell (p := ⟨Rr, 3, none⟩) hRl).trans r3
          have s1 : Rr < w'.heap.size := Nat.lt_of_lt_of_le hRl hSw.size
          have s2 := (hSw.cell (p := ⟨Z, 0, none⟩) hZl).trans z0
          have s3 := (hSw.cell (p := ⟨Z, 1, none⟩) hZl).trans z1
          have s4 := (hSw.cell (p := ⟨Z, 2, none⟩) hZl).trans z2
          have s5 : Z < w'.heap.size := Nat.lt_of_lt_of_le hZl hSw.size
          have s6 := (hSw.cell (p := ⟨Rr, 6, none⟩) hRl).trans r6
          clear hHeld hSw
          go_simp
        simp only [Act.put, List.getElem_toArray, List.getElem_cons_zero, List.getElem_cons_succ, List.setIfInBounds_toArray, List.set_cons_zero, List.set_cons_succ]
        refine wpAnyZ_take (i := 1) (v := .pointer (some ⟨Rr, 0, none⟩)) [] rfl (by kernel_rfl) (by kernel_rfl) (by kernel_rfl) (by kernel_rfl) (fun _ _ _ h => h) (Or.inl ⟨by kernel_rfl, fun w' hSw => ?_⟩) hHeld ?_
        · have s0 := (hSw.cell (p := ⟨Rr, 3, none⟩) hRl).trans r3
          have s1 : Rr < w'.heap.size := Nat.lt_of_lt_of_le hRl hSw.size
          have s2 := (hSw.cell (p := ⟨Z, 0, none⟩) hZl).trans z0
          have s3 := (hSw.cell (p := ⟨Z, 1, none⟩) hZl).trans z1
          have s4 := (hSw.cell (p := ⟨Z, 2, none⟩) hZl).trans z2
          have s5 : Z < w'.heap.size := Nat.lt_of_lt_of_le hZl hSw.size
          have s6 := (hSw.cell (p := ⟨Rr, 6, none⟩) hRl).trans r6
          clear hHeld hSw
          go_simp
        simp only [Act.put, List.getElem_toArray, List.getElem_cons_zero, List.getElem_cons_succ, List.setIfInBounds_toArray, List.set_cons_zero, List.set_cons_succ]
        refine wpAnyZ_take (i := 2) (v := .pointer (some ⟨Rr, 0, none⟩)) [] rfl (by kernel_rfl) (by kernel_rfl) (by kernel_rfl) (by kernel_rfl) (fun _ _ _ h => h) (Or.inl ⟨by kernel_rfl, fun w' hSw => ?_⟩) hHeld ?_
        · have s0 := (hSw.cell (p := ⟨Rr, 3, none⟩) hRl).trans r3
          have s1 : Rr < w'.heap.size := Nat.lt_of_lt_of_le hRl hSw.size
          have s2 := (hSw.cell (p := ⟨Z, 0, none⟩) hZl).trans z0
          have s3 := (hSw.cell (p := ⟨Z, 1, none⟩) hZl).trans z1
          have s4 := (hSw.cell (p := ⟨Z, 2, none⟩) hZl).trans z2
          have s5 : Z < w'.heap.size := Nat.lt_of_lt_of_le hZl hSw.size
          have s6 := (hSw.cell (p := ⟨Rr, 6, none⟩) hRl).trans r6
          clear hHeld hSw
          go_simp
        simp only [Act.put, List.getElem_toArray, List.getElem_cons_zero, List.getElem_cons_succ, List.setIfInBounds_toArray, List.set_cons_zero, List.set_cons_succ]
        refine wpAnyZ_take (i := 3) (v := .pointer (some ⟨Rr, 1, none⟩)) [] rfl (by kernel_rfl) (by kernel_rfl) (by kernel_rfl) (by kernel_rfl) (fun _ _ _ h => h) (Or.inl ⟨by kernel_rfl, fun w' hSw => ?_⟩) hHeld ?_
        · have s0 := (hSw.cell (p := ⟨Rr, 3, none⟩) hRl).trans r3
          have s1 : Rr < w'.heap.size := Nat.lt_of_lt_of_le hRl hSw.size
          have s2 := (hSw.cell (p := ⟨Z, 0, none⟩) hZl).trans z0
          have s3 := (hSw.cell (p := ⟨Z, 1, none⟩) hZl).trans z1
          have s4 := (hSw.cell (p := ⟨Z, 2, none⟩) hZl).trans z2
          have s5 : Z < w'.heap.size := Nat.lt_of_lt_of_le hZl hSw.size
          have s6 := (hSw.cell (p := ⟨Rr, 6, none⟩) hRl).trans r6
          clear hHeld hSw
          go_simp
        simp only [Act.put, List.getElem_toArray, List.getElem_cons_zero, List.getElem_cons_succ, List.setIfInBounds_toArray, List.set_cons_zero, List.set_cons_succ]
        refine wpAnyZ_take (i := 4) (v := .pointer (some ⟨Rr, 3, none⟩)) [] rfl (by kernel_rfl) (by kernel_rfl) (by kernel_rfl) (by kernel_rfl) (fun _ _ _ h => h) (Or.inl ⟨by kernel_rfl, fun w' hSw => ?_⟩) hHeld ?_
        · have s0 := (hSw.cell (p := ⟨Rr, 3, none⟩) hRl).trans r3
          have s1 : Rr < w'.heap.size := Nat.lt_of_lt_of_le hRl hSw.size
          have s2 := (hSw.cell (p := ⟨Z, 0, none⟩) hZl).trans z0
          have s3 := (hSw.cell (p := ⟨Z, 1, none⟩) hZl).trans z1
          have s4 := (hSw.cell (p := ⟨Z, 2, none⟩) hZl).trans z2
          have s5 : Z < w'.heap.size := Nat.lt_of_lt_of_le hZl hSw.size
          have s6 := (hSw.cell (p := ⟨Rr, 6, none⟩) hRl).trans r6
          clear hHeld hSw
          go_simp
        simp only [Act.put, List.getElem_toArray, List.getElem_cons_zero, List.getElem_cons_succ, List.setIfInBounds_toArray, List.set_cons_zero, List.set_cons_succ]
        refine wpAnyZ_take (i := 5) (v := .int .i64 hI.n) [] rfl (by kernel_rfl) (by kernel_rfl) (by kernel_rfl) (by kernel_rfl) (fun _ _ _ h => h) (Or.inl ⟨by kernel_rfl, fun w' hSw => ?_⟩) hHeld ?_
        · have s0 := (hSw.cell (p := ⟨Rr, 3, none⟩) hRl).trans r3
          have s1 : Rr < w'.heap.size := Nat.lt_of_lt_of_le hRl hSw.size
          have s2 := (hSw.cell (p := ⟨Z, 0, none⟩) hZl).trans z0
          have s3 := (hSw.cell (p := ⟨Z, 1, none⟩) hZl).trans z1
          have s4 := (hSw.cell (p := ⟨Z, 2, none⟩) hZl).trans z2
          have s5 : Z < w'.heap.size := Nat.lt_of_lt_of_le hZl hSw.size
          have s6 := (hSw.cell (p := ⟨Rr, 6, none⟩) hRl).trans r6
          clear hHeld hSw
          go_simp
        simp only [Act.put, List.getElem_toArray, List.getElem_cons_zero, List.getElem_cons_succ, List.setIfInBounds_toArray, List.set_cons_zero, List.set_cons_succ]
        refine wpAnyZ_one (i := 6) (by kernel_rfl) rfl (fun K' hK => ?_)
        go_simp
        refine (stOf_any rA rn rc (.bool ro) (.func (.func rF) #[] rcs) rks hI.n wd (HRK.out.keep hHeld) HRN.out (by omega) ⟨ro, rfl⟩ ⟨rF, #[], rcs, rfl⟩).mono ?_
        rintro e W3 ⟨rfl, hb3⟩
        rw [HKC.out]
        have hbb : Below W2.heap.size W2 W3 := below_then hHeld hb3
        clear hb3
        refine hK.out _ _ ?_ (fun hHeld' => ?_)
        · exact hbb
        clear hK K' hHeld hbb
        have hHeld := hHeld'
        clear hHeld'
        try simp only [Act.put, List.getElem_toArray, List.getElem_cons_zero, List.getElem_cons_succ, List.setIfInBounds_toArray, List.set_cons_zero, List.set_cons_succ]
        refine wpAnyZ_take (i := 7) (v := .bool false) [] rfl (by kernel_rfl) (by kernel_rfl) (by kernel_rfl) (by kernel_rfl) (fun _ _ _ h => h) (Or.inl ⟨by kernel_rfl, fun w' hSw => ?_⟩) hHeld ?_
        · have s0 := (hSw.cell (p := ⟨Rr, 3, none⟩) hRl).trans r3
          have s1 : Rr < w'.heap.size := Nat.lt_of_lt_of_le hRl hSw.size
          have s2 := (hSw.cell (p := ⟨Z, 0, none⟩) hZl).trans z0
          have s3 := (hSw.cell (p := ⟨Z, 1, none⟩) hZl).trans z1
          have s4 := (hSw.cell (p := ⟨Z, 2, none⟩) hZl).trans z2
          have s5 : Z < w'.heap.size := Nat.lt_of_lt_of_le hZl hSw.size
          have s6 := (hSw.cell (p := ⟨Rr, 6, none⟩) hRl).trans r6
          clear hHeld hSw
          go_simp
        simp only [Act.put, List.getElem_toArray, List.getElem_cons_zero, List.getElem_cons_succ, List.setIfInBounds_toArray, List.set_cons_zero, List.set_cons_succ]
        refine wpAnyZ_take (i := 8) (v := undef) [] rfl (by kernel_rfl) (by kernel_rfl) (by kernel_rfl) (by kernel_rfl) (fun _ _ _ h => h) (Or.inr ⟨by kernel_rfl, rfl⟩) hHeld ?_
        simp only [Act.put, List.getElem_toArray, List.getElem_cons_zero, List.getElem_cons_succ, List.setIfInBounds_toArray, List.set_cons_zero, List.set_cons_succ]
        refine wpAnyZ_take (i := 9) (v := undef) [] rfl (by kernel_rfl) (by kernel_rfl) (by kernel_rfl) (by kernel_rfl) (fun _ _ _ h => h) (Or.inr ⟨by kernel_rfl, rfl⟩) hHeld ?_
        simp only [Act.put, List.getElem_toArray, List.getElem_cons_zero, List.getElem_cons_succ, List.setIfInBounds_toArray, List.set_cons_zero, List.set_cons_succ]
        refine wpAnyZ_take (i := 10) (v := undef) [] rfl (by kernel_rfl) (by kernel_rfl) (by kernel_rfl) (by kernel_rfl) (fun _ _ _ h => h) (Or.inr ⟨by kernel_rfl, rfl⟩) hHeld ?_
        simp only [Act.put, List.getElem_toArray, List.getElem_cons_zero, List.getElem_cons_succ, List.setIfInBounds_toArray, List.set_cons_zero, List.set_cons_succ]
        refine wpAnyZ_take (i := 11) (v := .bool false) [] rfl (by kernel_rfl) (by kernel_rfl) (by kernel_rfl) (by kernel_rfl) (fun _ _ _ h => h) (Or.inl ⟨by kernel_rfl, fun w' hSw => ?_⟩) hHeld ?_
        · have s0 := (hSw.cell (p := ⟨Rr, 3, none⟩) hRl).trans r3
          have s1 : Rr < w'.heap.size := Nat.lt_of_lt_of_le hRl hSw.size
          have s2 := (hSw.cell (p := ⟨Z, 0, none⟩) hZl).trans z0
          have s3 := (hSw.cell (p := ⟨Z, 1, none⟩) hZl).trans z1
          have s4 := (hSw.cell (p := ⟨Z, 2, none⟩) hZl).trans z2
          have s5 : Z < w'.heap.size := Nat.lt_of_lt_of_le hZl hSw.size
          have s6 := (hSw.cell (p := ⟨Rr, 6, none⟩) hRl).trans r6
          clear hHeld hSw
          go_simp
        simp only [Act.put, List.getElem_toArray, List.getElem_cons_zero, List.getElem_cons_succ, List.setIfInBounds_toArray, List.set_cons_zero, List.set_cons_succ]
        refine wpAnyZ_take (i := 12) (v := .bool false) [] rfl (by kernel_rfl) (by kernel_rfl) (by kernel_rfl) (by kernel_rfl) (fun _ _ _ h => h) (Or.inl ⟨by kernel_rfl, fun w' hSw => ?_⟩) hHeld ?_
        · have s0 := (hSw.cell (p := ⟨Rr, 3, none⟩) hRl).trans r3
          have s1 : Rr < w'.heap.size := Nat.lt_of_lt_of_le hRl hSw.size
          have s2 := (hSw.cell (p := ⟨Z, 0, none⟩) hZl).trans z0
          have s3 := (hSw.cell (p := ⟨Z, 1, none⟩) hZl).trans z1
          have s4 := (hSw.cell (p := ⟨Z, 2, none⟩) hZl).trans z2
          have s5 : Z < w'.heap.size := Nat.lt_of_lt_of_le hZl hSw.size
          have s6 := (hSw.cell (p := ⟨Rr, 6, none⟩) hRl).trans r6
          clear hHeld hSw
          go_simp
        simp only [Act.put, List.getElem_toArray, List.getElem_cons_zero, List.getElem_cons_succ, List.setIfInBounds_toArray, List.set_cons_zero, List.set_cons_succ]
        refine wpAnyZ_take (i := 13) (v := undef) [] rfl (by kernel_rfl) (by kernel_rfl) (by kernel_rfl) (by kernel_rfl) (fun _ _ _ h => h) (Or.inr ⟨by kernel_rfl, rfl⟩) hHeld ?_
        simp only [Act.put, List.getElem_toArray, List.getElem_cons_zero, List.getElem_cons_succ, List.setIfInBounds_toArray, List.set_cons_zero, List.set_cons_succ]
        refine wpAnyZ_take (i := 14) (v := undef) [] rfl (by kernel_rfl) (by kernel_rfl) (by kernel_rfl) (by kernel_rfl) (fun _ _ _ h => h) (Or.inr ⟨by kernel_rfl, rfl⟩) hHeld ?_
        simp only [Act.put, List.getElem_toArray, List.getElem_cons_zero, List.getElem_cons_succ, List.setIfInBounds_toArray, List.set_cons_zero, List.set_cons_succ]
        refine wpAnyZ_take (i := 15) (v := undef) [] rfl (by kernel_rfl) (by kernel_rfl) (by kernel_rfl) (by kernel_rfl) (fun _ _ _ h => h) (Or.inr ⟨by kernel_rfl, rfl⟩) hHeld ?_
        simp only [Act.put, List.getElem_toArray, List.getElem_cons_zero, List.getElem_cons_succ, List.setIfInBounds_toArray, List.set_cons_zero, List.set_cons_succ]
        refine wpAnyZ_take (i := 16) (v := undef) [] rfl (by kernel_rfl) (by kernel_rfl) (by kernel_rfl) (by kernel_rfl) (fun _ _ _ h => h) (Or.inr ⟨by kernel_rfl, rfl⟩) hHeld ?_
        simp only [Act.put, List.getElem_toArray, List.getElem_cons_zero, List.getElem_cons_succ, List.setIfInBounds_toArray, List.set_cons_zero, List.set_cons_succ]
        refine wpAnyZ_take (i := 17) (v := undef) [] rfl (by kernel_rfl) (by kernel_rfl) (by kernel_rfl) (by kernel_rfl) (fun _ _ _ h => h) (Or.inr ⟨by kernel_rfl, rfl⟩) hHeld ?_
        simp only [Act.put, List.getElem_toArray, List.getElem_cons_zero, List.getElem_cons_succ, List.setIfInBounds_toArray, List.set_cons_zero, List.set_cons_succ]
        refine wpAnyZ_take (i := 18) (v := undef) [] rfl (by kernel_rfl) (by kernel_rfl) (by kernel_rfl) (by kernel_rfl) (fun _ _ _ h => h) (Or.inr ⟨by kernel_rfl, rfl⟩) hHeld ?_
        simp only [Act.put, List.getElem_toArray, List.getElem_cons_zero, List.getElem_cons_succ, List.setIfInBounds_toArray, List.set_cons_zero, List.set_cons_succ]
        refine wpAnyZ_take (i := 19) (v := undef) [] rfl (by kernel_rfl) (by kernel_rfl) (by kernel_rfl) (by kernel_rfl) (fun _ _ _ h => h) (Or.inr ⟨by kernel_rfl, rfl⟩) hHeld ?_
        simp only [Act.put, List.getElem_toArray, List.getElem_cons_zero, List.getElem_cons_succ, List.setIfInBounds_toArray, List.set_cons_zero, List.set_cons_succ]
        refine wpAnyZ_take (i := 20) (v := .bool false) [] rfl (by kernel_rfl) (by kernel_rfl) (by kernel_rfl) (by kernel_rfl) (fun _ _ _ h => h) (Or.inl ⟨by kernel_rfl, fun w' hSw => ?_⟩) hHeld ?_
        · have s0 := (hSw.cell (p := ⟨Rr, 3, none⟩) hRl).trans r3
          have s1 : Rr < w'.heap.size := Nat.lt_of_lt_of_le hRl hSw.size
          have s2 := (hSw.cell (p := ⟨Z, 0, none⟩) hZl).trans z0
          have s3 := (hSw.cell (p := ⟨Z, 1, none⟩) hZl).trans z1
          have s4 := (hSw.cell (p := ⟨Z, 2, none⟩) hZl).trans z2
          have s5 : Z < w'.heap.size := Nat.lt_of_lt_of_le hZl hSw.size
          have s6 := (hSw.cell (p := ⟨Rr, 6, none⟩) hRl).trans r6
          clear hHeld hSw
          go_simp
        simp only [Act.put, List.getElem_toArray, List.getElem_cons_zero, List.getElem_cons_succ, List.setIfInBounds_toArray, List.set_cons_zero, List.set_cons_succ]
        refine wpAnyZ_done (by kernel_rfl) ?_ _
        go_step
        go_step
        have HM3 : Hid (Mod (fun _ => False) w W3) := Lib.hid (HMo2.out.trans (modB hHeld))
        have HRG3 : Hid (W3.ranges Tryz.prog 9 rAny Mb RR n0 D (fun z => left z && !z.sameKey (strL kx)) cnt1) := Lib.hid (HRG2.out.kept (row := none) (grown_below hHeld) (by simp) (by simp))
        clear hHeld
        go_wp2_with fail
        go_roundg cnt1
        case measure => exact Nat.lt_of_lt_of_le hlt1 hcg
        case rel => exact ⟨_, cnt1, Nat.le_refl _, HM3, HRG3⟩
end Go.Proofs.YtpkonifeieepfaaGreat
/-
As RegZ, but what an operation keeps is promised only if it holds before: pure operations may then be taken at any time.
-/
namespace Go.Proofs.YtpkonifeieepfaaGreat
section
variable {P : Program} {ops : Array Oper} {Q : Exit → Act → World → Prop} {md : Region.Mode} {S : World → Prop} {Z : List Nat}
def wpAnyK (P : Program) (md : Region.Mode) (ops : Array Oper) (Q : Exit → Act → World → Prop) (S : World → Prop) (Z : List Nat) : Nat → Array Bool → Act → World → Prop
  | 0, listed, a, w => Region.ready md ops listed = [] ∧ Q .normal a w
  | fuel + 1, listed, a, w =>
    (Region.ready md ops listed = [] → Q .normal a w) ∧
    ∀ i ∈ Region.ready md ops listed, wpOp P ops Q i (fun a' w' => (i ∉ Z → S w → S w') ∧ wpAnyK P md ops Q S Z fuel (listed.setIfInBounds i true) a' w') a w
theorem wpAny_of_K : ∀ (fuel : Nat) (listed : Array Bool) (a : Act) (w : World), wpAnyK P md ops Q S Z fuel listed a w → wpAny P md ops Q fuel listed a w
  | 0, _, _, _, h => h
  | fuel + 1, _, _, _, h => ⟨h.1, fun i hi => wpOp_mono (fun a' w' h' => wpAny_of_K fuel _ a' w' h'.2) (h.2 i hi)⟩
theorem wpAnyK_first {T : World → Prop} {i : Nat} {oi : Oper} {v : Value} {C : List Nat} (hi : ops[i]? = some oi) (hsel : ∀ (j : Nat) (o : Oper) cs b, ops[j]? = some o → o.op ≠ .select cs b)
    (hQ : ∀ c a w, Q (.panic c) (a.put oi.dst v) w → Q (.panic c) a w) (hZ : (∀ w, T w) ∨ ((∀ w, T w ↔ S w) ∧ ∀ z, z ∈ Z → z ∈ C)) :
    ∀ (fuel : Nat) (listed : Array Bool) (a : Act) (w : World),
      (∀ j oj, ops[j]? = some oj → j ≠ i → listed.getD j true = false → (∀ e ∈ oj.after, Region.binds md e = true → e.on ≠ i) → oi.apart ops oj = true) →
      blocks md ops listed i C = true → i ∈ Region.ready md ops listed → YieldsIf P ops T oi v a → T w →
      wpAnyK P md ops Q S Z fuel (listed.setIfInBounds i true) (a.put oi.dst v) w → wpAnyK P md ops Q S Z (fuel + 1) listed a w := by
  intro fuel
  induction fuel with
  | zero =>
    intro listed a w _ _ hr hy hS H
    refine ⟨fun h => (by rw [h] at hr; cases hr), fun j hj => ?_⟩
    by_cases hji : j = i
    · subst hji; exact hy.wpOp hi hS ⟨fun _ h => h, H⟩
    · have := ready_mono hj hji
      rw [H.1] at this
      cases this
  | succ fuel ih =>
    intro listed a w hfree hbl hr hy hS H
    refine ⟨fun h => (by rw [h] at hr; cases hr), fun j hj => ?_⟩
    by_cases hji : j = i
    · subst hji; exact hy.wpOp hi hS ⟨fun _ h => h, H⟩
    · have h1 := H.2 j (ready_mono hj hji)
      obtain ⟨hjun, oj, hoj, hall⟩ := mem_ready.1 hj
      have h0 := (mem_ready.1 hr).1
      have hjC : j ∉ C := fun hc => blocks_not hbl h0 hc hj
      have hnot : ∀ e ∈ oj.after, Region.binds md e = true → e.on ≠ i := fun e he hb heq => by
        have h1 := hall e he hb
        rw [heq, unlisted h0] at h1
        cases h1
      have h2 := wpOp_putIf hoj (hfree j oj hoj hji hjun hnot) (fun cs b => hsel i oi cs b hi) (fun cs b => hsel j oj cs b hoj) hQ hy h1
      have hfree' : ∀ k ok, ops[k]? = some ok → k ≠ i → (listed.setIfInBounds j true).getD k true = false →
          (∀ e ∈ ok.after, Region.binds md e = true → e.on ≠ i) → oi.apart ops ok = true := fun k ok hk hki hun hno => by
        refine hfree k ok hk hki ?_ hno
        by_cases hjk : j = k
        · subst hjk; exact hjun
        · rw [getD_set_ne true hjk] at hun; exact hun
      refine wpOp_mono (fun a' w' h3 => ⟨h3.2.1, ih (listed.setIfInBounds j true) a' w' hfree' (blocks_set hbl hjC) (ready_mono hr (Ne.symm hji)) h3.1 ?_ ?_⟩) h2
      · rcases hZ with hZ | ⟨hZ, hz2⟩
        · exact hZ w'
        · exact (hZ w').2 (h3.2.1 (fun hz => hjC (hz2 j hz)) ((hZ w).1 hS))
      · rw [Array.setIfInBounds_comm _ _ hji]
        exact h3.2.2
/-- Take number i first; C: the operations of Z, and those that wait for i and for which Z waits. -/
theorem wpAnyK_take {i : Nat} {oi : Oper} {v : Value} {fuel : Nat} {listed : Array Bool} {a : Act} {w : World} (C : List Nat) (hi : ops[i]? = some oi)
    (hs : Region.noSelect ops = true) (hf : Region.free md ops listed i = true) (hr : (Region.ready md ops listed).contains i = true) (hb : (blocks md ops listed i C && Z.all (fun z => C.contains z)) = true)
    (hQ : ∀ c a w, Q (.panic c) (a.put oi.dst v) w → Q (.panic c) a w) (hy : YieldsIf P ops S oi v a) (hS : S w)
    (h : wpAnyK P md ops Q S Z fuel (listed.setIfInBounds i true) (a.put oi.dst v) w) : wpAnyK P md ops Q S Z (fuel + 1) listed a w := by
  simp only [Bool.and_eq_true, List.all_eq_true, List.contains_iff_mem] at hb
  exact wpAnyK_first hi (Region.noSelect_spec hs) hQ (.inr ⟨fun _ => Iff.rfl, hb.2⟩) fuel listed a w (Region.free_spec hi hf) hb.1 (by simpa using hr) hy hS h
/-- Take a pure one first. -/
theorem wpAnyK_pure {i : Nat} {oi : Oper} {v : Value} {fuel : Nat} {listed : Array Bool} {a : Act} {w : World} (hi : ops[i]? = some oi)
    (hs : Region.noSelect ops = true) (hf : Region.free md ops listed i = true) (hr : (Region.ready md ops listed).contains i = true)
    (hQ : ∀ c a w, Q (.panic c) (a.put oi.dst v) w → Q (.panic c) a w) (hy : YieldsIf P ops (fun _ => True) oi v a)
    (h : wpAnyK P md ops Q S Z fuel (listed.setIfInBounds i true) (a.put oi.dst v) w) : wpAnyK P md ops Q S Z (fuel + 1) listed a w :=
  wpAnyK_first (T := fun _ => True) (C := []) hi (Region.noSelect_spec hs) hQ (.inl fun _ => trivial) fuel listed a w (Region.free_spec hi hf) (by rfl) (by simpa using hr) hy trivial h
/-- The only one that may come up, and one of the last. -/
theorem wpAnyK_last {i : Nat} {o : Oper} {fuel : Nat} {listed : Array Bool} {a : Act} {w : World} (hr : Region.ready md ops listed = [i]) (ho : ops[i]? = some o) (hz : Z.contains i = true)
    (h : ∀ K' : Act → World → Prop, Shut (∀ a w, wpAnyK P md ops Q S Z fuel (listed.setIfInBounds i true) a w → K' a w) → if Region.wanted o (yielded ops a.tmps) = true then Oper.wp P o a w K' Q else K' (a.put o.dst undef) w) :
    wpAnyK P md ops Q S Z (fuel + 1) listed a w := by
  refine ⟨fun h0 => absurd (hr ▸ h0) (by simp), ?_⟩
  rw [hr]
  intro j hj
  rw [List.mem_singleton] at hj
  subst hj
  exact wpOp_step ho (fun K' hK => h K' (fun a w hW => hK a w ⟨fun hn => absurd (by simpa using hz) hn, hW⟩))
/-- The only one that may come up, and not one of the last. -/
theorem wpAnyK_one {i : Nat} {o : Oper} {fuel : Nat} {listed : Array Bool} {a : Act} {w : World} (hr : Region.ready md ops listed = [i]) (ho : ops[i]? = some o)
    (h : ∀ K' : Act → World → Prop, Shut (∀ a w2, (S w → S w2) → wpAnyK P md ops Q S Z fuel (listed.setIfInBounds i true) a w2 → K' a w2) → if Region.wanted o (yielded ops a.tmps) = true then Oper.wp P o a w K' Q else K' (a.put o.dst undef) w) :
    wpAnyK P md ops Q S Z (fuel + 1) listed a w := by
  refine ⟨fun h0 => absurd (hr ▸ h0) (by simp), ?_⟩
  rw [hr]
  intro j hj
  rw [List.mem_singleton] at hj
  subst hj
  exact wpOp_step ho (fun K' hK => h K' (fun a w hS hW => hK a w ⟨fun _ => hS, hW⟩))
theorem wpAnyK_done {listed : Array Bool} {a : Act} {w : World} (hr : Region.ready md ops listed = []) (h : Q .normal a w) : ∀ fuel, wpAnyK P md ops Q S Z fuel listed a w
  | 0 => ⟨hr, h⟩
  | _ + 1 => ⟨fun _ => h, by rw [hr]; simp⟩
end
/-- The beginning, in the plain walk. -/
theorem region_k {P : Program} {id : Nat} {ops : Array Oper} {Q : Exit → Act → World → Prop} {S : World → Prop} (Z : List Nat) {a : Act} {w : World} (hm : P.follows .mixedOrders = true)
    (hS : S w.drew) (h : S w.drew → wpAnyK P .any ops Q S Z ops.size (Array.replicate ops.size false) a w.drew) : (Code.region id ops true).wp P Q a w :=
  wp_region_any hm (wpAny_of_K _ _ _ _ (h hS))
end Go.Proofs.YtpkonifeieepfaaGreat
/-
site.Build: room, and what declares an item.
-/
namespace Go.Proofs.YtpkonifeieepfaaGreat
open Go.RowKit
set_option linter.unusedVariables false
set_option linter.unusedSimpArgs false
/-- What the builder knows. -/
structure BSt where
  cons : List GCon
  owns : List ByteArray
  chgs : List GChg
  fd : Bool
  th : List (ByteArray × Int × Int)
  names : List (List UInt8)
def zeroS : RSt := ⟨⟨⟨#[]⟩, 0, 0, 0, 0, 0, 0, 0, 0, 0, 0⟩, ⟨⟨#[]⟩, 0, 0, 0⟩, ⟨⟨#[]⟩, 0, 0, 0, 0, 0, 0, 0⟩, ⟨⟨#[]⟩, 0⟩⟩
def tabN : List (List UInt8 × List Int × Bool) := [([108, 105, 109, 105, 116], [1, 2], false), ([110, 101, 117, 116, 114, 97, 108], [1, 2], false), ([102, 117, 115, 101], [1, 2], true), ([116, 104, 101, 114, 109, 97, 108], [1, 2], true), ([102, 114, 111, 109], [2], false), ([111, 119, 110, 101, 114], [4, 5], false), ([114, 97, 110, 107], [4], false), ([99, 97, 114, 100], [4], false), ([97, 116], [5], false), ([112, 104, 97, 115, 101, 115], [5], false), ([97, 109, 112, 115], [5], false), ([102, 97, 108, 108, 98, 97, 99, 107], [5], false), ([99, 104, 97, 114, 103, 101, 114], [6], false)]
def wholeD (kind : Int) (seen : List (List UInt8)) (s : RSt) : Bool := tabN.all (fun r => !(r.2.1.contains kind) || r.2.2 || seen.contains r.1) && !seen.contains [116, 104, 101, 114, 109, 97, 108] && (kind != 5 || ampsB s.chg)
def roomN (kind : Int) (b : BSt) : Nat := if kind = 1 then b.cons.length else if kind = 3 then b.owns.length else b.chgs.length
def preI (x : Nd (Nd Lf)) (b : BSt) : BSt := { b with fd := b.fd || x.n == 1, names := b.names ++ [x.name.data.toList] }
def declB (x : Nd (Nd Lf)) (s : RSt) (b : BSt) : BSt := { b with
  cons := if x.n = 1 then b.cons ++ [{ s.con with name := x.name, up := -1 }] else b.cons
  owns := if x.n = 3 then b.owns ++ [x.name] else b.owns
  chgs := if x.n = 5 then b.chgs ++ [{ s.chg with name := x.name }] else b.chgs
  th := (x.name, x.n, (roomN x.n b : Nat)) :: b.th }
def declI (x : Nd (Nd Lf)) (s : RSt) (b : BSt) : BSt := declB x s (preI x b)
def stepI (x : Nd (Nd Lf)) (b : BSt) : Option BSt :=
  if !b.names.contains x.name.data.toList && !(x.n == 1 && b.fd) && (x.n == 1 || x.n == 3 || x.n == 5) && decide (roomN x.n b < (if x.n = 3 then 8 else 16)) && decide (x.name.size ≤ 8000) then
    (match runA b.th x.n x.kids [] zeroS with
    | some (s, seen) => if wholeD x.n seen s then some (declI x s b) else none
    | none => none) else none
theorem encCon_one (c : GCon) (u : Value) (hu : u ∈ encCon c) : u.oneCell' = true := by
  simp [encCon] at hu
  rcases hu with rfl | rfl | rfl | rfl | rfl | rfl | rfl | rfl | rfl | rfl | rfl <;> rfl
theorem encChg_one (c : GChg) (u : Value) (hu : u ∈ encChg c) : u.oneCell' = true := by
  simp [encChg] at hu
  rcases hu with rfl | rfl | rfl | rfl | rfl | rfl | rfl | rfl <;> rfl
theorem wholeD_ok {Sa Bb Sc : Nat} {kind : Int} {seen : List (List UInt8)} {s : RSt} (h : wholeD kind seen s = true) : wholeOk (ruleT Sa Bb Sc) kind seen s := by
  unfold wholeD at h
  simp only [Bool.and_eq_true, List.all_eq_true, Bool.or_eq_true, Bool.not_eq_true', bne_iff_ne] at h
  refine ⟨fun r hr hk ho => ?_, fun hm => ?_, fun h5 => ?_⟩
  · have key : ∀ q ∈ tabN, q.2.1 = r.ks → q.2.2 = r.opt → q.1 = r.key.data.toList → r.key.data.toList ∈ seen := by
      intro q hq e1 e2 e3
      have := h.1.1 q hq
      rw [e1, e2, e3, hk, ho] at this
      simpa using this
    simp only [ruleT, ruleC, List.cons_append, List.nil_append, List.mem_cons, List.not_mem_nil, or_false] at hr
    rcases hr with h | h | h | h | h | h | h | h | h | h | h | h | h <;> subst h
    all_goals first
      | exact key ([108, 105, 109, 105, 116], [1, 2], false) (by simp [tabN]) rfl rfl rfl
      | exact key ([110, 101, 117, 116, 114, 97, 108], [1, 2], false) (by simp [tabN]) rfl rfl rfl
      | exact key ([102, 117, 115, 101], [1, 2], true) (by simp [tabN]) rfl rfl rfl
      | exact key ([116, 104, 101, 114, 109, 97, 108], [1, 2], true) (by simp [tabN]) rfl rfl rfl
      | exact key ([102, 114, 111, 109], [2], false) (by simp [tabN]) rfl rfl rfl
      | exact key ([111, 119, 110, 101, 114], [4, 5], false) (by simp [tabN]) rfl rfl rfl
      | exact key ([114, 97, 110, 107], [4], false) (by simp [tabN]) rfl rfl rfl
      | exact key ([99, 97, 114, 100], [4], false) (by simp [tabN]) rfl rfl rfl
      | exact key ([97, 116], [5], false) (by simp [tabN]) rfl rfl rfl
      | exact key ([112, 104, 97, 115, 101, 115], [5], false) (by simp [tabN]) rfl rfl rfl
      | exact key ([97, 109, 112, 115], [5], false) (by simp [tabN]) rfl rfl rfl
      | exact key ([102, 97, 108, 108, 98, 97, 99, 107], [5], false) (by simp [tabN]) rfl rfl rfl
      | exact key ([99, 104, 97, 114, 103, 101, 114], [6], false) (by simp [tabN]) rfl rfl rfl
  · have := h.1.2
    rw [Bool.eq_false_iff] at this
    exact this (List.contains_iff_mem.2 hm)
  · rcases h.2 with h | h
    · exact absurd h5 h
    · exact h
theorem app_litM {P : Program} {α : Type} {t e ty : TypeId} {sz bytes : Nat} {z : Value} {enc : α → List Value} {w : World} {base : Nat} {v : Value} {xs ys : List α} {m c : Nat} {lit : Array Value}
    (hinfo : (P.info? e).map (fun i => (i.zero, i.size, i.bytes)) = some (some z, sz, bytes)) (ht : P.underlying t = some (.slice e)) (hzs : z.cells.size = sz) (h0 : 0 < sz) (hsz : ∀ x, (enc x).length = sz) (hone : ∀ x u, u ∈ enc x → u.oneCell' = true)
    (h : OwnR e sz enc w base v xs) (hb : base ≤ w.heap.size) (hlit : lit = (ys.flatMap enc).toArray) (hym : ys.length = m) (hl : xs.length + m ≤ 1000000) (hbytes : bytes ≤ 1000) :
    Appends P (w.alloc (.cells lit e)) t ty v (.slice (some ⟨w.heap.size, 0, none⟩) m c) ∧
    ∃ v' w1, appV P (w.alloc (.cells lit e)) t ty v (.slice (some ⟨w.heap.size, 0, none⟩) m c) = v' ∧ appW P (w.alloc (.cells lit e)) t ty v (.slice (some ⟨w.heap.size, 0, none⟩) m c) = w1 ∧ Hid (OwnR e sz enc w1 base v' (xs ++ ys)) ∧ Hid (Mod (fun k => v.ownBlock = some k) w w1) := by
  have rd : Rd sz enc (w.alloc (.cells lit e)) (some ⟨w.heap.size, 0, none⟩) ys := by
    rw [hlit]
    exact (Own.new w e (ys.flatMap enc).toArray undef).rd (by rw [List.size_toArray, flatR_len hsz]; exact Nat.le_refl _) hsz (fun k x hx j v hv => by
      show (ys.flatMap enc).toArray[k * sz + j]?.getD undef = v
      rw [List.getElem?_toArray, flatR_at hsz ys k j x v hx hv]; rfl)
  obtain ⟨h1, v', w1, e1, e2, e3, e4, e5⟩ := app_rows (P := P) (ty := ty) (c := c) (m := m) hinfo ht hzs h0 hsz hone (h.alloc _) rd hym ⟨_, rfl⟩ (by simp; omega) (by unfold maxLen; omega)
    (Nat.le_trans (Nat.mul_le_mul hl hbytes) (by omega))
  exact ⟨h1, v', w1, e1, e2, Lib.hid e3, Lib.hid (((Mod.refl _ w).alloc _).trans e4)⟩
theorem appInfoCon : (Tryz.prog.info? 74).map (fun i => (i.zero, i.size, i.bytes)) = some (some (.agg #[.string ByteArray.empty, .int .i64 0, .int .i64 0, .int .i64 0, .int .i64 0, .int .i64 0, .int .i64 0, .int .i64 0, .int .i64 0, .int .i64 0, .int .i64 0]), 11, 96) := by kernel_rfl
theorem appInfoOwner : (Tryz.prog.info? 151).map (fun i => (i.zero, i.size, i.bytes)) = some (some (.agg #[.string ByteArray.empty]), 1, 16) := by kernel_rfl
theorem appInfoChg : (Tryz.prog.info? 45).map (fun i => (i.zero, i.size, i.bytes)) = some (some (.agg #[.string ByteArray.empty, .int .i64 0, .int .i64 0, .int .i64 0, .int .i64 0, .int .i64 0, .int .i64 0, .int .i64 0]), 8, 72) := by kernel_rfl
def bdL (v1 v2 v4 : Value) (Nb Tb : Nat) (fd : Bool) : List Value := [v1, v2, .slice none 0 0, v4, .slice none 0 0, .map (some Nb), .bool fd, .map (some Tb), .slice none 0 0]
abbrev BdO (W : World) (Bd : Nat) (v1 v2 v4 : Value) (Nb Tb : Nat) (fd : Bool) : Prop := Own W Bd 93 9 (fun i => (bdL v1 v2 v4 Nb Tb fd)[i]?.getD undef)
theorem ownR_ne {W : World} {g : Nat} {t t' : TypeId} {n : Nat} {f : Nat → Value} {α : Type} {sz : Nat} {enc : α → List Value} {base : Nat} {v : Value} {xs : List α} (h : Own W g t n f) (k : OwnR t' sz enc W base v xs) (ht : t ≠ t') : ∀ j, v.ownBlock = some j → j = g → False := by
  intro j hj e
  subst e
  obtain ⟨cs, hb, _⟩ := h
  rcases k.2 with ⟨hv, _⟩ | ⟨g', cap, cur, hv, _, hg, _⟩
  · rw [hv] at hj; cases hj
  · rw [hv] at hj
    injection hj with hj
    simp at hj
    rw [hj] at hg
    rw [hb] at hg
    injection hg with hg
    injection hg with _ hg _
    exact ht hg
theorem ownRR_ne {W : World} {t t' : TypeId} {α α' : Type} {sz sz' : Nat} {enc : α → List Value} {enc' : α' → List Value} {base base' : Nat} {v v' : Value} {xs : List α} {xs' : List α'} (h : OwnR t sz enc W base v xs) (k : OwnR t' sz' enc' W base' v' xs') (ht : t ≠ t') : ∀ j, v.ownBlock = some j → v'.ownBlock = some j → False := by
  intro j hj hj'
  rcases h.2 with ⟨hv, _⟩ | ⟨g, cap, cur, hv, _, hg, _⟩
  · rw [hv] at hj; cases hj
  · rcases k.2 with ⟨hv', _⟩ | ⟨g', cap', cur', hv', _, hg', _⟩
    · rw [hv'] at hj'; cases hj'
    · rw [hv] at hj
      rw [hv'] at hj'
      injection hj with hj
      injection hj' with hj'
      simp at hj hj'
      rw [hj] at hg
      rw [hj', hg] at hg'
      injection hg' with hg'
      injection hg' with _ hg' _
      exact ht hg'
/-- The builder's memory. -/
structure BdM (W : World) (base Bd Nb Tb nt nn : Nat) (b : BSt) (v1 v2 v4 : Value) : Prop where
  ow : BdO W Bd v1 v2 v4 Nb Tb b.fd
  l1 : OwnR 74 11 encCon W base v1 b.cons
  l2 : OwnR 151 1 encS W base v2 b.owns
  l4 : OwnR 45 8 encChg W base v4 b.chgs
  th : ValM Tryz.prog 9 W Tb nt (thF b.th)
  nm : SetM Tryz.prog 9 4 W Nb nn (b.names.map Lit.string)
  ly : Bd < base ∧ Nb < base ∧ Tb < base ∧ Bd ≠ Nb ∧ Bd ≠ Tb ∧ Nb ≠ Tb ∧ base ≤ W.heap.size
  ln : b.cons.length ≤ 16 ∧ b.owns.length ≤ 16 ∧ b.chgs.length ≤ 16
theorem BdM.keep {W W' : World} {base Bd Nb Tb nt nn : Nat} {b : BSt} {v1 v2 v4 : Value} (h : BdM W base Bd Nb Tb nt nn b v1 v2 v4) (hb : Below W.heap.size W W') : BdM W' base Bd Nb Tb nt nn b v1 v2 v4 :=
  ⟨h.ow.keep hb h.ow.lt, h.l1.keepB hb, h.l2.keepB hb, h.l4.keepB hb, h.th.keep hb, h.nm.keep hb, by have := h.ly; have := hb.size; omega, h.ln⟩
set_option maxRecDepth 100000 in
set_option maxHeartbeats 8000000 in
theorem stRoom_ok (kind : Int) (base Bd Nb Tb nt nn : Nat) (b : BSt) (v1 v2 v4 : Value) (w : World) (HB : Hid (BdM w base Bd Nb Tb nt nn b v1 v2 v4)) (hk : kind = 1 ∨ kind = 3 ∨ kind = 5) :
    Calls Tryz.prog 73 #[.pointer (some ⟨Bd, 0, none⟩), .int .i64 kind] w fun e w' => e = .returned (.tuple #[.int .i64 (roomN kind b : Nat), .int .i64 (if kind = 3 then 8 else 16)]) ∧ w' = w := by
  obtain ⟨a1, c1, hv1⟩ := HB.out.l1.shape
  obtain ⟨a2, c2, hv2⟩ := HB.out.l2.shape
  obtain ⟨a4, c4, hv4⟩ := HB.out.l4.shape
  subst hv1 hv2 hv4
  have b0 : w.cell? ⟨Bd, 0, none⟩ = some (.slice a1 b.cons.length c1) := HB.out.ow.cell (i := 0) (by omega)
  have b1 : w.cell? ⟨Bd, 1, none⟩ = some (.slice a2 b.owns.length c2) := HB.out.ow.cell (i := 1) (by omega)
  have b3 : w.cell? ⟨Bd, 3, none⟩ = some (.slice a4 b.chgs.length c4) := HB.out.ow.cell (i := 3) (by omega)
  have hBl : Bd < w.heap.size := HB.out.ow.lt
  rcases hk with rfl | rfl | rfl
  all_goals
    go_enter Tryz.func73, Tryz.ntmps73
    go_wp2_with fail
    refine bodyPost_ret (results_tmp2 rfl _ _ _) rfl ?_
    exact ⟨rfl, rfl⟩
end Go.Proofs.YtpkonifeieepfaaGreat
