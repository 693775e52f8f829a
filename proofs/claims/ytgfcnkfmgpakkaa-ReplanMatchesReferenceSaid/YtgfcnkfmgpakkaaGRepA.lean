/-
Several texts in one: RepA, RepB, RepC.
-/
import Derived.Test.YtgfcnkfmgpakkaaGSort
import Derived.Test.YtgfcnkfmgpakkaaGRepM
import Derived.Test.YtgfcnkfmgpakkaaGAdmG
import Derived.Deep.LoopGhost
import Derived.Lib.SliceRun
import Derived.Test.YtgfcnkfmgpakkaaGAdmE
import Derived.Test.YtgfcnkfmgpakkaaGPlanC
/-
replan.inOrder, walked: its comparison, slices.Clone, sorted; replan.some.
-/
namespace Go.Proofs.Ytgfcnkfmgpakkaa
open Go.RowKit
set_option linter.unusedVariables false
set_option linter.unusedSimpArgs false
theorem cIsNaN_any (n : Int) (w : World) : Calls Try.prog 127 #[.int .i64 n] w fun e w' => e = .returned (.bool false) ∧ w = w' := by
  have h : (n != n) = false := by simp
  go_enter Try.func127, Try.ntmps127
  go_wp2
  go_ret
  exact ⟨rfl, rfl⟩
theorem cCompare_any (x y : Int) (w : World) : Calls Try.prog 118 #[.int .i64 x, .int .i64 y] w fun e w' => e = .returned (.int .i64 (cmpV x y)) ∧ w = w' := by
  unfold cmpV
  by_cases h1 : x < y
  · rw [if_pos h1]
    go_enter Try.func118, Try.ntmps118
    go_wp2_with (go_at_call 127; refine (cIsNaN_any _ _).mono ?_; rintro e w' ⟨rfl, rfl⟩)
    go_ret
    exact ⟨rfl, rfl⟩
  · rw [if_neg h1]
    by_cases h2 : y < x
    · rw [if_pos h2]
      go_enter Try.func118, Try.ntmps118
      go_wp2_with (go_at_call 127; refine (cIsNaN_any _ _).mono ?_; rintro e w' ⟨rfl, rfl⟩)
      go_ret
      exact ⟨rfl, rfl⟩
    · rw [if_neg h2]
      go_enter Try.func118, Try.ntmps118
      go_wp2_with (go_at_call 127; refine (cIsNaN_any _ _).mono ?_; rintro e w' ⟨rfl, rfl⟩)
      go_ret
      exact ⟨rfl, rfl⟩
theorem rOrd1_any (x : Int) (bj : Nat) (A : Option Addr) (c N : Nat) (js : List GJob) (w : World) (hc : w.cell? ⟨bj, 0, none⟩ = some (.slice A N c)) (hR : Rd 5 encJ w A js) (HN : Hid (js.length = N)) (h0 : 0 ≤ x) (h1 : x < N) :
    Calls Try.prog 93 #[.int .i64 x, .pointer (some ⟨bj, 0, none⟩)] w fun e w' => e = .returned (.int .i64 (jAt js x.toNat).rank) ∧ w' = w := by
  obtain ⟨k, rfl⟩ : ∃ k : Nat, x = k := ⟨x.toNat, by omega⟩
  obtain ⟨b, off, j, rfl, hb, hj, c0, c1, c2, c3, c4⟩ := rdJ_at hR (k := k) (by rw [HN.out]; omega)
  have hjk : Hid (j.rank = (jAt js ((k : Int)).toNat).rank) := Lib.hid (by simp [jAt, hj])
  clear hR hj
  go_enter Try.func93, Try.ntmps93
  go_wp2
  go_ret
  exact ⟨ret_int hjk.out, rfl⟩
theorem rOrd2_any (x : Int) (w : World) : Calls Try.prog 94 #[.int .i64 x] w fun e w' => e = .returned (.int .i64 x) ∧ w' = w := by
  go_enter Try.func94, Try.ntmps94
  go_wp2
  go_ret
  exact ⟨rfl, rfl⟩
def orV (x y : Int) : Int := if x = 0 then y else x
theorem cOr_any (x y : Int) (g c : Nat) (w : World) (hR : Rd 1 encI w (some ⟨g, 0, none⟩) [x, y]) : Calls Try.prog 117 #[.slice (some ⟨g, 0, none⟩) 2 c] w fun e w' => e = .returned (.int .i64 (orV x y)) ∧ w' = w := by
  obtain ⟨b, off, e0, _, h0⟩ := hR.int (k := 0) (by simp)
  obtain ⟨b', off', e1, _, h1⟩ := hR.int (k := 1) (by simp)
  injection e0 with e0
  injection e0 with e0 e0'
  injection e1 with e1
  injection e1 with e1 e1'
  subst e0 e0' e1 e1'
  have c0 : w.cell? ⟨g, 0, none⟩ = some (.int .i64 x) := by simpa using h0
  have c1 : w.cell? ⟨g, 1, none⟩ = some (.int .i64 y) := by simpa using h1
  clear hR h0 h1
  by_cases hx : x = 0
  · have HE : Hid (orV x y = y) := Lib.hid (by unfold orV; rw [if_pos hx])
    have hxn : (x != 0) = false := by simp [hx]
    clear hx
    by_cases hy : y = 0
    · have hyn : (y != 0) = false := by simp [hy]
      have HY := Lib.hid hy
      clear hy
      go_enter Try.func117, Try.ntmps117
      go_wp2
      refine wp_loop_rounds 3 ?_
      rw [rounds_succ]
      go_wp2
      rw [rounds_succ]
      go_wp2
      rw [rounds_succ]
      go_wp2
      go_ret
      exact ⟨ret_int (by rw [HE.out, HY.out]), rfl⟩
    · have hyn : (y != 0) = true := by simp [hy]
      clear hy
      go_enter Try.func117, Try.ntmps117
      go_wp2
      refine wp_loop_rounds 3 ?_
      rw [rounds_succ]
      go_wp2
      rw [rounds_succ]
      go_wp2
      go_ret
      exact ⟨ret_int HE.out.symm, rfl⟩
  · have HE : Hid (orV x y = x) := Lib.hid (by unfold orV; rw [if_neg hx])
    have hxn : (x != 0) = true := by simp [hx]
    clear hx
    go_enter Try.func117, Try.ntmps117
    go_wp2
    refine wp_loop_rounds 3 ?_
    rw [rounds_succ]
    go_wp2
    go_ret
    exact ⟨ret_int HE.out.symm, rfl⟩
/-- What the sort goes by. -/
def ordKey (js : List GJob) (x : Int) : Int := -((jAt js x.toNat).rank * 1000 + x)
theorem ordKey_lt {js : List GJob} {x y : Int} (hx : 0 ≤ x ∧ x < 1000) (hy : 0 ≤ y ∧ y < 1000) : ordKey js y < ordKey js x ↔ before js x y := by
  unfold ordKey before
  omega
theorem orV_key {js : List GJob} {x y : Int} (hx : 0 ≤ x ∧ x < 1000) (hy : 0 ≤ y ∧ y < 1000) : orV (cmpV (jAt js x.toNat).rank (jAt js y.toNat).rank) (cmpV x y) = cmpV (ordKey js y) (ordKey js x) := by
  unfold orV cmpV ordKey
  (repeat' split) <;> omega
theorem lt2' {i : Nat} (h : i < 2) : i = 0 ∨ i = 1 := by omega
theorem rd_two (w : World) (x y : Int) : Rd 1 encI (w.alloc (.cells #[.int .i64 x, .int .i64 y] 3)) (some ⟨w.heap.size, 0, none⟩) [x, y] :=
  Own.rd (sz := 1) (enc := encI) (xs := [x, y]) (Own.new w 3 #[.int .i64 x, .int .i64 y] undef) (by simp) (fun _ => rfl) (fun k z hz j v hv => by
    have hj : j = 0 := by have := (List.getElem?_eq_some_iff.1 hv).1; simp [encI] at this; exact this
    subst hj
    have hk : k < 2 := (List.getElem?_eq_some_iff.1 hz).1
    simp only [encI, List.getElem?_cons_zero, Option.some.injEq] at hv
    rcases lt2' hk with rfl | rfl
    · simp at hz; subst hz; exact hv
    · simp at hz; subst hz; exact hv)
set_option maxRecDepth 100000 in
set_option maxHeartbeats 4000000 in
theorem sCmp2_any (b1 b2 bj : Nat) (A : Option Addr) (c N : Nat) (js : List GJob) (x y : Int) (W : World) (c1 : W.cell? ⟨b1, 0, none⟩ = some (.func (.func 93) #[] #[.pointer (some ⟨bj, 0, none⟩)])) (c2 : W.cell? ⟨b2, 0, none⟩ = some (.func (.func 94) #[] #[])) (cj : W.cell? ⟨bj, 0, none⟩ = some (.slice A N c))
    (hR : Rd 5 encJ W A js) (HN : Hid (js.length = N)) (hN : N ≤ 12) (dx : 0 ≤ x ∧ x < N) (dy : 0 ≤ y ∧ y < N) :
    Calls Try.prog 116 #[.int .i64 x, .int .i64 y, .pointer (some ⟨b1, 0, none⟩), .pointer (some ⟨b2, 0, none⟩)] W fun e w' => e = .returned (.int .i64 (cmpV (ordKey js y) (ordKey js x))) ∧ Below W.heap.size W w' := by
  have l1 := World.block_lt_of_cell? W _ c1
  have l2 := World.block_lt_of_cell? W _ c2
  have lj := World.block_lt_of_cell? W _ cj
  have HR := Lib.hid hR
  have HE : Hid (orV (cmpV (jAt js x.toNat).rank (jAt js y.toNat).rank) (cmpV x y) = cmpV (ordKey js y) (ordKey js x)) := Lib.hid (orV_key (by omega) (by omega))
  clear hR
  go_enter Try.func116, Try.ntmps116
  go_upto_region 1 with (fail)
  refine region_z (S := fun w' => Below W.heap.size W w') [] (by kernel_rfl) (Below.refl _ _).drew (fun hHeld => ?_)
  refine wpAnyZ_take (i := 0) (v := .func (.func 93) #[] #[.pointer (some ⟨bj, 0, none⟩)]) [] rfl (by kernel_rfl) (by kernel_rfl) (by kernel_rfl) (by kernel_rfl) (fun _ _ _ h => h) (Or.inl ⟨by rfl, fun w' hSw => ?_⟩) hHeld ?_
  · clear hHeld
    have s0 := (hSw.cell (p := ⟨b1, 0, none⟩) l1).trans c1
    go_simp
  simp only [Act.put, List.setIfInBounds_toArray, List.set_cons_zero, List.set_cons_succ]
  refine wpAnyZ_take (i := 1) (v := .int .i64 x) [] rfl (by kernel_rfl) (by kernel_rfl) (by kernel_rfl) (by kernel_rfl) (fun _ _ _ h => h) (Or.inl ⟨by rfl, fun w' hSw => ?_⟩) hHeld ?_
  · clear hHeld
    go_simp
  simp only [Act.put, List.setIfInBounds_toArray, List.set_cons_zero, List.set_cons_succ]
  refine wpAnyZ_take (i := 3) (v := .func (.func 93) #[] #[.pointer (some ⟨bj, 0, none⟩)]) [] rfl (by kernel_rfl) (by kernel_rfl) (by kernel_rfl) (by kernel_rfl) (fun _ _ _ h => h) (Or.inl ⟨by rfl, fun w' hSw => ?_⟩) hHeld ?_
  · clear hHeld
    have s0 := (hSw.cell (p := ⟨b1, 0, none⟩) l1).trans c1
    go_simp
  simp only [Act.put, List.setIfInBounds_toArray, List.set_cons_zero, List.set_cons_succ]
  refine wpAnyZ_take (i := 4) (v := .int .i64 y) [] rfl (by kernel_rfl) (by kernel_rfl) (by kernel_rfl) (by kernel_rfl) (fun _ _ _ h => h) (Or.inl ⟨by rfl, fun w' hSw => ?_⟩) hHeld ?_
  · clear hHeld
    go_simp
  simp only [Act.put, List.setIfInBounds_toArray, List.set_cons_zero, List.set_cons_succ]
  refine wpAnyZ_take (i := 7) (v := .func (.func 94) #[] #[]) [] rfl (by kernel_rfl) (by kernel_rfl) (by kernel_rfl) (by kernel_rfl) (fun _ _ _ h => h) (Or.inl ⟨by rfl, fun w' hSw => ?_⟩) hHeld ?_
  · clear hHeld
    have s0 := (hSw.cell (p := ⟨b2, 0, none⟩) l2).trans c2
    go_simp
  simp only [Act.put, List.setIfInBounds_toArray, List.set_cons_zero, List.set_cons_succ]
  refine wpAnyZ_take (i := 8) (v := .int .i64 x) [] rfl (by kernel_rfl) (by kernel_rfl) (by kernel_rfl) (by kernel_rfl) (fun _ _ _ h => h) (Or.inl ⟨by rfl, fun w' hSw => ?_⟩) hHeld ?_
  · clear hHeld
    go_simp
  simp only [Act.put, List.setIfInBounds_toArray, List.set_cons_zero, List.set_cons_succ]
  refine wpAnyZ_take (i := 10) (v := .func (.func 94) #[] #[]) [] rfl (by kernel_rfl) (by kernel_rfl) (by kernel_rfl) (by kernel_rfl) (fun _ _ _ h => h) (Or.inl ⟨by rfl, fun w' hSw => ?_⟩) hHeld ?_
  · clear hHeld
    have s0 := (hSw.cell (p := ⟨b2, 0, none⟩) l2).trans c2
    go_simp
  simp only [Act.put, List.setIfInBounds_toArray, List.set_cons_zero, List.set_cons_succ]
  refine wpAnyZ_take (i := 11) (v := .int .i64 y) [] rfl (by kernel_rfl) (by kernel_rfl) (by kernel_rfl) (by kernel_rfl) (fun _ _ _ h => h) (Or.inl ⟨by rfl, fun w' hSw => ?_⟩) hHeld ?_
  · clear hHeld
    go_simp
  simp only [Act.put, List.setIfInBounds_toArray, List.set_cons_zero, List.set_cons_succ]
  refine wpAnyZ_one (i := 2) (by kernel_rfl) rfl (fun K' hK => ?_)
  go_simp
  refine (rOrd1_any x bj A c N js _ ((hHeld.cell (p := ⟨bj, 0, none⟩) lj).trans cj) (HR.out.keep hHeld) HN dx.1 dx.2).mono ?_
  rintro e w' ⟨rfl, rfl⟩
  refine hK.out _ _ ?_ (fun hHeld' => ?_)
  · exact hHeld
  clear hK K' hHeld'
  try simp only [Act.put, List.setIfInBounds_toArray, List.set_cons_zero, List.set_cons_succ]
  refine wpAnyZ_one (i := 5) (by kernel_rfl) rfl (fun K' hK => ?_)
  go_simp
  refine (rOrd1_any y bj A c N js _ ((hHeld.cell (p := ⟨bj, 0, none⟩) lj).trans cj) (HR.out.keep hHeld) HN dy.1 dy.2).mono ?_
  rintro e w' ⟨rfl, rfl⟩
  refine hK.out _ _ ?_ (fun hHeld' => ?_)
  · exact hHeld
  clear hK K' hHeld'
  try simp only [Act.put, List.setIfInBounds_toArray, List.set_cons_zero, List.set_cons_succ]
  refine wpAnyZ_one (i := 6) (by kernel_rfl) rfl (fun K' hK => ?_)
  go_simp
  refine (cCompare_any _ _ _).mono ?_
  rintro e w' ⟨rfl, rfl⟩
  refine hK.out _ _ ?_ (fun hHeld' => ?_)
  · exact hHeld
  clear hK K' hHeld'
  try simp only [Act.put, List.setIfInBounds_toArray, List.set_cons_zero, List.set_cons_succ]
  refine wpAnyZ_one (i := 9) (by kernel_rfl) rfl (fun K' hK => ?_)
  go_simp
  refine (rOrd2_any x _).mono ?_
  rintro e w' ⟨rfl, rfl⟩
  refine hK.out _ _ ?_ (fun hHeld' => ?_)
  · exact hHeld
  clear hK K' hHeld'
  try simp only [Act.put, List.setIfInBounds_toArray, List.set_cons_zero, List.set_cons_succ]
  refine wpAnyZ_one (i := 12) (by kernel_rfl) rfl (fun K' hK => ?_)
  go_simp
  refine (rOrd2_any y _).mono ?_
  rintro e w' ⟨rfl, rfl⟩
  refine hK.out _ _ ?_ (fun hHeld' => ?_)
  · exact hHeld
  clear hK K' hHeld'
  try simp only [Act.put, List.setIfInBounds_toArray, List.set_cons_zero, List.set_cons_succ]
  refine wpAnyZ_one (i := 13) (by kernel_rfl) rfl (fun K' hK => ?_)
  go_simp
  refine (cCompare_any _ _ _).mono ?_
  rintro e w' ⟨rfl, rfl⟩
  refine hK.out _ _ ?_ (fun hHeld' => ?_)
  · exact hHeld
  clear hK K' hHeld'
  try simp only [Act.put, List.setIfInBounds_toArray, List.set_cons_zero, List.set_cons_succ]
  refine wpAnyZ_one (i := 14) (by kernel_rfl) rfl (fun K' hK => ?_)
  go_simp
  refine hK.out _ _ ?_ (fun hHeld' => ?_)
  · exact hHeld.alloc hHeld.size _
  have hsz := hHeld.size
  clear hK K' hHeld
  try simp only [Act.put, List.setIfInBounds_toArray, List.set_cons_zero, List.set_cons_succ]
  refine wpAnyZ_one (i := 15) (by kernel_rfl) rfl (fun K' hK => ?_)
  go_simp
  have hrd : Rd 1 encI ((W.alloc (.cells #[.int .i64 (cmpV (jAt js x.toNat).rank (jAt js y.toNat).rank), .int .i64 (cmpV x y)] 3)).drew) (some ⟨W.heap.size, 0, none⟩) [cmpV (jAt js x.toNat).rank (jAt js y.toNat).rank, cmpV x y] := rd_two W _ _
  refine (cOr_any _ _ W.heap.size 2 _ hrd).mono ?_
  rintro e w' ⟨rfl, rfl⟩
  refine hK.out _ _ ?_ (fun hHeld'' => ?_)
  · exact hHeld'
  clear hK K' hHeld''
  try simp only [Act.put, List.setIfInBounds_toArray, List.set_cons_zero, List.set_cons_succ]
  refine wpAnyZ_one (i := 16) (by kernel_rfl) rfl (fun K' hK => ?_)
  go_simp
  refine hK.out _ _ ?_ (fun hHeld'' => ?_)
  · exact hHeld'
  clear hK K'
  try simp only [Act.put, List.setIfInBounds_toArray, List.set_cons_zero, List.set_cons_succ]
  refine wpAnyZ_done (by kernel_rfl) ?_ _
  have HB := Lib.hid hHeld'
  clear hHeld'
  go_step
  go_wp2
  go_ret
  exact ⟨ret_int HE.out, HB.out⟩
end Go.Proofs.Ytgfcnkfmgpakkaa
/-
slices.Clone, replan.sorted, inOrder, some, walked.
-/
namespace Go.Proofs.Ytgfcnkfmgpakkaa
open Go.RowKit
set_option linter.unusedVariables false
set_option linter.unusedSimpArgs false
theorem eqlNil {P : Program} (w : World) (t e : TypeId) (a : Option Addr) (n c : Nat) (h : P.underlying t = some (.slice e)) : (binOp .eql t (.slice a n c) (.slice none 0 0)).run P w = .ok (.bool a.isNone) w := by
  rw [Lib.run_eql_slice_nil w t e a n c 0 0 h]
/-- What a clone is: an own list of the same numbers. -/
def ClonePost (w : World) (xs : List Int) (e : Ending) (w' : World) : Prop := ∃ v, e = .returned v ∧ Hid (OwnN w' w.heap.size v xs) ∧ Below w.heap.size w w'
set_option maxRecDepth 100000 in
set_option maxHeartbeats 4000000 in
theorem sClone_any (A : Option Addr) (c N : Nat) (xs : List Int) (w : World) (hR : Rd 1 encI w A xs) (HN : Hid (xs.length = N)) (hN : N ≤ 1000000) :
    Calls Try.prog 74 #[.slice A N c] w (ClonePost w xs) := by
  cases A with
  | none =>
    have hx : xs = [] := by
      cases xs with
      | nil => rfl
      | cons x xs => obtain ⟨b, off, e, _⟩ := hR (by simp); cases e
    have HX := Lib.hid hx
    have HO : Hid (OwnN w w.heap.size (.slice none 0 0) xs) := Lib.hid (by rw [HX.out]; exact OwnR.nil _ _)
    clear hR hx
    have heq : ∀ W : World, (binOp .eql 23 (.slice none N c) (.slice none 0 0)).run Try.prog W = .ok (.bool true) W := fun W => eqlNil W 23 3 none N c Try.underlying23
    go_enter Try.func74, Try.ntmps74
    go_wp2
    go_ret
    exact ⟨.slice none 0 0, rfl, HO, Below.refl _ _⟩
  | some a =>
    have hown : OwnN (w.alloc (.cells #[] 3)) w.heap.size (.slice (some ⟨w.heap.size, 0, none⟩) 0 0) [] := OwnR.made w #[] 0 (by omega) rfl (Nat.le_refl _)
    have ba : Below w.heap.size w (w.alloc (.cells #[] 3)) := (Below.refl _ w).alloc (Nat.le_refl _) _
    obtain ⟨ap, v', w1, av, aw, HO, HA⟩ := app_argR (P := Try.prog) (ty := 23) (c := c) (m := N) appInfoNum Try.underlying23 rfl (by omega) encI_len1 encI_one hown (hR.keep ba) HN.out ba.size (by simp; unfold maxLen; omega) (by simp; omega)
    rw [List.nil_append] at HO
    have HB : Hid (Below w.heap.size w w1) := Lib.hid (ba.trans HA.out.bel)
    clear hR hown ba HA
    have heq : ∀ W : World, (binOp .eql 23 (.slice (some a) N c) (.slice none 0 0)).run Try.prog W = .ok (.bool false) W := fun W => eqlNil W 23 3 (some a) N c Try.underlying23
    go_enter Try.func74, Try.ntmps74
    go_wp2
    go_ret
    exact ⟨v', rfl, HO, HB.out⟩
/-- An own list of numbers, as the sort wants it. -/
theorem OwnR.ownP {w : World} {base : Nat} {v : Value} {xs : List Int} (h : OwnN w base v xs) (h0 : 0 < xs.length) : ∃ g c, v = .slice (some ⟨g, 0, none⟩) xs.length c ∧ base ≤ g ∧ OwnP w g xs.length (fAt xs) := by
  rcases h.2 with ⟨h1, h2⟩ | ⟨g, cap, cur, hv, hb, hg, hl, hm, hs, hc⟩
  · exact absurd h2 (by omega)
  · refine ⟨g, cap, hv, hb, cur, hg, by omega, fun i hi => ?_⟩
    have : xs[i]? = some (fAt xs i) := by simp [fAt, List.getElem?_eq_getElem hi]
    have e := flatR_at encI_len1 xs i 0 (fAt xs i) _ this rfl
    rw [← hc, List.getElem?_take, if_pos (by omega), Nat.mul_one, Nat.add_zero, Array.getElem?_toList] at e
    exact e
/-- A list of numbers in a row, as a slice. -/
theorem OwnP.rd {w : World} {g n : Nat} {f : Nat → Int} (h : OwnP w g n f) : Rd 1 encI w (some ⟨g, 0, none⟩) (mk n f) := by
  intro hn
  refine ⟨g, 0, rfl, h.lt, fun k x hx j v hv => ?_⟩
  have hk : k < n := by have := (List.getElem?_eq_some_iff.1 hx).1; rwa [mk_len] at this
  rw [mk_at _ hk] at hx
  injection hx with hx
  have hj : j = 0 := by have := (List.getElem?_eq_some_iff.1 hv).1; simp [encI] at this; exact this
  subst hj
  simp only [encI, List.getElem?_cons_zero, Option.some.injEq] at hv
  rw [Nat.zero_add, Nat.mul_one, Nat.add_zero, h.cell hk, hx, hv]
def nums (n : Nat) : List Int := mk n (fun i => (i : Int))
theorem nums_at {n i : Nat} (h : i < n) : fAt (nums n) i = (i : Int) := by unfold fAt nums; rw [mk_at _ h]; rfl
theorem klt_before {js : List GJob} {x y : Int} (hx : 0 ≤ x ∧ x < 1000) (hy : 0 ≤ y ∧ y < 1000) (h : klt (ordKey js) x y) : before js x y := by
  unfold klt at h
  rcases h with h | ⟨h1, h2⟩
  · exact (ordKey_lt hx hy).1 h
  · unfold ordKey at h1; unfold before; omega
theorem sorts_ord {js : List GJob} {N : Nat} (hN : js.length = N) (h12 : N ≤ 12) {f' : Nat → Int} (h : Sorts (ordKey js) 0 N (fAt (nums N)) f') : IsOrd js (mk N f') := by
  have hm : ∀ x, x ∈ mk N f' ↔ 0 ≤ x ∧ x < js.length := fun x => by
    have h1 : x ∈ mk N f' ↔ x ∈ seg f' 0 N := by
      unfold mk seg
      simp
    rw [h1, h.perm.mem_iff, mem_seg]
    constructor
    · rintro ⟨k, _, hk, rfl⟩
      rw [nums_at hk]; omega
    · rintro ⟨h0, h1⟩
      exact ⟨x.toNat, by omega, by omega, by rw [nums_at (by omega)]; omega⟩
  refine ⟨hm, List.pairwise_iff_getElem.2 fun p q hp hq hpq => ?_⟩
  have e : ∀ p (hp : p < (mk N f').length), (mk N f')[p] = f' p := fun p hp => by simp [mk]
  have vp := (hm _).1 (List.getElem_mem hp)
  have vq := (hm _).1 (List.getElem_mem hq)
  rw [mk_len] at hp hq
  have := h.sorted p q (Nat.zero_le _) hpq hq
  rw [e p (by rw [mk_len]; exact hp)] at vp ⊢
  rw [e q (by rw [mk_len]; exact hq)] at vq ⊢
  exact klt_before (by omega) (by omega) this
theorem sInsert_zero (a : Option Addr) (c : Nat) (fv : Value) (w : World) : Calls Try.prog 130 #[.slice a 0 c, .int .i64 0, .int .i64 0, fv] w fun e w' => e = .returned (.tuple #[]) ∧ w' = w := by
  go_enter Try.func130, Try.ntmps130
  go_wp2
  refine wp_loop_rounds 1 ?_
  rw [rounds_succ]
  go_wp2
  go_end0
  exact ⟨rfl, rfl⟩
theorem sStable_zero (a : Option Addr) (c : Nat) (fv : Value) (w : World) : Calls Try.prog 128 #[.slice a 0 c, .int .i64 0, fv] w fun e w' => e = .returned (.tuple #[]) ∧ w' = w := by
  go_enter Try.func128, Try.ntmps128
  go_wp2
  refine wp_loop_rounds 1 ?_
  rw [rounds_succ]
  go_wp2_with fail
  refine (sInsert_zero a c fv w).mono ?_
  rintro e w1 ⟨rfl, rfl⟩
  go_wp2
  refine wp_loop_rounds 1 ?_
  rw [rounds_succ]
  go_wp2
  go_end0
  exact ⟨rfl, rfl⟩
theorem sSortStable_zero (a : Option Addr) (c : Nat) (fv : Value) (w : World) : Calls Try.prog 115 #[.slice a 0 c, fv] w fun e w' => e = .returned (.tuple #[]) ∧ w' = w := by
  go_enter Try.func115, Try.ntmps115
  go_wp2_with fail
  refine (sStable_zero a c fv w).mono ?_
  rintro e w1 ⟨rfl, rfl⟩
  go_wp2_with fail
  go_end0
  exact ⟨rfl, rfl⟩
/-- What inOrder returns. -/
def OrdPost (w : World) (js : List GJob) (N : Nat) (e : Ending) (w' : World) : Prop := ∃ a d ord, e = .returned (.slice a N d) ∧ Rd 1 encI w' a ord ∧ IsOrd js ord ∧ Below w.heap.size w w'
set_option maxRecDepth 100000 in
set_option maxHeartbeats 4000000 in
theorem rSorted_any (A A2 : Option Addr) (c N c2 bj : Nat) (js : List GJob) (w : World) (hR : Rd 1 encI w A (nums N)) (hj : w.cell? ⟨bj, 0, none⟩ = some (.slice A2 N c2)) (hR2 : Rd 5 encJ w A2 js) (HN2 : Hid (js.length = N)) (hN : N ≤ 12) :
    Calls Try.prog 92 #[.slice A N c, .func (.func 93) #[] #[.pointer (some ⟨bj, 0, none⟩)], .func (.func 94) #[] #[]] w (OrdPost w js N) := by
  have ba : Below w.heap.size w ((w.alloc (.cells #[.func (.func 93) #[] #[.pointer (some ⟨bj, 0, none⟩)]] 65)).alloc (.cells #[.func (.func 94) #[] #[]] 65)) := ((Below.refl _ w).alloc (Nat.le_refl _) _).alloc (by simp) _
  have c1 : ((w.alloc (.cells #[.func (.func 93) #[] #[.pointer (some ⟨bj, 0, none⟩)]] 65)).alloc (.cells #[.func (.func 94) #[] #[]] 65)).cell? ⟨w.heap.size, 0, none⟩ = some (.func (.func 93) #[] #[.pointer (some ⟨bj, 0, none⟩)]) := by go_simp
  have c2' : ((w.alloc (.cells #[.func (.func 93) #[] #[.pointer (some ⟨bj, 0, none⟩)]] 65)).alloc (.cells #[.func (.func 94) #[] #[]] 65)).cell? ⟨w.heap.size + 1, 0, none⟩ = some (.func (.func 94) #[] #[]) := by go_simp
  have hlen : Hid ((nums N).length = N) := Lib.hid (mk_len _ _)
  have hj1 := (ba.cell (p := ⟨bj, 0, none⟩) (World.block_lt_of_cell? w _ hj)).trans hj
  obtain ⟨W, hW⟩ : ∃ W, W = (w.alloc (.cells #[.func (.func 93) #[] #[.pointer (some ⟨bj, 0, none⟩)]] 65)).alloc (.cells #[.func (.func 94) #[] #[]] 65) := ⟨_, rfl⟩
  rw [← hW] at ba c1 c2' hj1
  have HW := Lib.hid hW.symm
  have HC1 := Lib.hid c1
  have HC2 := Lib.hid c2'
  have HJ := Lib.hid hj1
  have HBA := Lib.hid ba
  have HR2 := Lib.hid (hR2.keep ba)
  have HR := Lib.hid (hR.keep ba)
  clear hW c1 c2' hj1 ba hR2 hR hj
  go_enter Try.func92, Try.ntmps92
  go_upto_region 1 with (fail)
  rw [HW.out]
  go_wp2_with fail
  refine (sClone_any A c N (nums N) W HR.out hlen (by omega)).mono ?_
  rintro e w1 ⟨v, rfl, HO, hb1⟩
  have B1 := Lib.hid hb1
  clear hb1
  rcases Nat.eq_zero_or_pos N with h0 | h0
  · subst h0
    obtain ⟨a, d, e1⟩ := HO.out.shape
    rw [hlen.out] at e1
    subst e1
    go_wp2_with fail
    refine (sSortStable_zero a d _ w1).mono ?_
    rintro e w2 ⟨rfl, rfl⟩
    have HP : Hid (OrdPost w js 0 (.returned (.slice a 0 d)) w2) := Lib.hid ⟨a, d, [], rfl, Rd.nil, ⟨fun x => ⟨fun h => by simp at h, fun h => by have := HN2.out; omega⟩, List.Pairwise.nil⟩, below_then HBA.out B1.out⟩
    clear HO
    go_wp2_with fail
    go_ret
    exact HP.out
  · obtain ⟨g, d, e1, hg, hP⟩ := HO.out.ownP (by rw [hlen.out]; exact h0)
    rw [hlen.out] at e1 hP
    subst e1
    have HCmp : Hid (CmpR (ordKey js) (fun x => 0 ≤ x ∧ x < N) (.pointer (some ⟨w.heap.size, 0, none⟩)) (.pointer (some ⟨w.heap.size + 1, 0, none⟩)) g w1) := Lib.hid (fun X hX x y dx dy => by
      have hk : ∀ (p : Addr) (u : Value), W.cell? p = some u → X.cell? p = some u := fun p u hp => by
        have hl := World.block_lt_of_cell? W _ hp
        exact (hX.cell (p := p) (Nat.lt_of_lt_of_le hl B1.out.size) (by omega)).trans ((B1.out.cell (p := p) hl).trans hp)
      exact sCmp2_any _ _ bj A2 c2 N js x y X (hk _ _ HC1.out) (hk _ _ HC2.out) (hk _ _ HJ.out) (HR2.out.cells (Nat.le_trans B1.out.size hX.size) hk) HN2 hN dx dy)
    have HS := Lib.hid (sSortStableR_few (ordKey js) (fun x => 0 ≤ x ∧ x < N) (.pointer (some ⟨w.heap.size, 0, none⟩)) (.pointer (some ⟨w.heap.size + 1, 0, none⟩)) g N d (fAt (nums N)) w1 w1 HCmp.out ⟨hP, Mod.refl _ _⟩ (by omega) (fun k hk => by rw [nums_at hk]; omega) (fun p q h1 h2 h3 => by rw [nums_at (by omega), nums_at h3]; omega))
    have Hg := Lib.hid hg
    clear HO hP hg HCmp
    go_wp2_with fail
    refine HS.out.mono ?_
    rintro e w2 ⟨rfl, f', hs, hp⟩
    have HP : Hid (OrdPost w js N (.returned (.slice (some ⟨g, 0, none⟩) N d)) w2) := Lib.hid ⟨_, d, mk N f', rfl, hp.own.rd, sorts_ord HN2.out hN hs, below_then HBA.out ((B1.out.trans (hp.mod.below (B := W.heap.size) B1.out.size (fun k _ hk => by rw [hk]; exact Hg.out))))⟩
    clear hs hp HS
    go_wp2_with fail
    go_ret
    exact HP.out
set_option maxRecDepth 100000 in
set_option maxHeartbeats 4000000 in
theorem rInOrder_any (A : Option Addr) (c N : Nat) (js : List GJob) (w : World) (hR : Rd 5 encJ w A js) (HN : Hid (js.length = N)) (hN : N ≤ 12) :
    Calls Try.prog 77 #[.slice A N c] w (OrdPost w js N) := by
  have hmk : ∀ W : World, (Instr.makeSlice 23 (.int .i64 N) (.int .i64 N)).run Try.prog W = .ok (.slice (some ⟨W.heap.size, 0, none⟩) N N) (W.alloc (.cells (madeCells #[.int .i64 0] N) 3)) := fun W => by
    have := mk_row (P := Try.prog) 23 3 (.int .i64 0) 1 8 Try.underlying23 appInfoNum (N : Int) (by omega) (by omega) (by omega) W
    simpa [Value.cells] using this
  have HMK := Lib.hid hmk
  clear hmk
  have ba : Below w.heap.size w (w.alloc (.cells #[.slice A N c] 22)) := (Below.refl _ w).alloc (Nat.le_refl _) _
  have cj : (w.alloc (.cells #[.slice A N c] 22)).cell? ⟨w.heap.size, 0, none⟩ = some (.slice A N c) := by go_simp
  have o0 : Own ((w.alloc (.cells #[.slice A N c] 22)).alloc (.cells (madeCells #[.int .i64 0] N) 3)) (w.heap.size + 1) 3 N (fun _ => .int .i64 0) := by
    have h := Own.made1 (w.alloc (.cells #[.slice A N c] 22)) 3 (.int .i64 0) N
    rw [World.size_alloc, Nat.mul_one] at h
    exact h
  have bb : Below (w.alloc (.cells #[.slice A N c] 22)).heap.size (w.alloc (.cells #[.slice A N c] 22)) ((w.alloc (.cells #[.slice A N c] 22)).alloc (.cells (madeCells #[.int .i64 0] N) 3)) := (Below.refl _ _).alloc (Nat.le_refl _) _
  have cj1 := (bb.cell (p := ⟨w.heap.size, 0, none⟩) (by simp)).trans cj
  have hR1 := (hR.keep ba).keep bb
  have b1 := below_then ba bb
  obtain ⟨W, hW⟩ : ∃ W, W = (w.alloc (.cells #[.slice A N c] 22)).alloc (.cells (madeCells #[.int .i64 0] N) 3) := ⟨_, rfl⟩
  rw [← hW] at o0 cj1 hR1 b1
  have HW : Hid ((w.alloc (.cells #[.slice A N c] 22)).alloc (.cells (madeCells #[.int .i64 0] N) 3) = W) := Lib.hid hW.symm
  have HO0 := Lib.hid o0
  have HCJ := Lib.hid cj1
  have HR := Lib.hid hR1
  have hR0 := Lib.hid hR
  have B1 := Lib.hid b1
  clear hW o0 cj1 hR1 b1 bb ba hR
  have hmk1 := HMK.out (w.alloc (.cells #[.slice A N c] 22))
  rw [World.size_alloc] at hmk1
  go_enter Try.func77, Try.ntmps77
  go_upto_region 2 with (fail)
  rw [HW.out]
  clear hmk1 cj HMK
  go_wp2
  go_loopg [4, 10] N (fun g1 v4 v10 wr => ∃ k : Nat, v10 = .int .i64 k ∧ k ≤ N ∧ N - k ≤ g1 ∧ Hid (Own wr (w.heap.size + 1) 3 N (fun i => if i < k then .int .i64 (i : Int) else .int .i64 0) ∧ Mod (fun q => q = w.heap.size + 1) W wr))
  case atStart => exact ⟨0, by go_num, by omega, by omega, Lib.hid ⟨HO0.out.congr (fun i hi => by simp), Mod.refl _ _⟩⟩
  case round =>
    obtain ⟨k, rfl, hk, hg1, HX⟩ := hrel
    by_cases hlt : k < N
    · have hltz : (k : Int) < (N : Int) := by omega
      have ck := HX.out.1.cell (i := k) hlt
      have fk := HX.out.1.frozen k
      have HX2 : Hid (Own (wr.setCell ⟨w.heap.size + 1, k, none⟩ (.int .i64 (k : Int))) (w.heap.size + 1) 3 N (fun i => if i < k + 1 then .int .i64 (i : Int) else .int .i64 0) ∧ Mod (fun q => q = w.heap.size + 1) W (wr.setCell ⟨w.heap.size + 1, k, none⟩ (.int .i64 (k : Int)))) := Lib.hid ⟨(HX.out.1.set k _).congr (fun i hi => by
        by_cases e : i = k
        · subst e; simp
        · have : (i < k + 1) ↔ (i < k) := by omega
          simp [e, this]), HX.out.2.setCell (.inl rfl) _⟩
      clear HX
      go_wp2
      go_roundg (N - (k + 1))
      case measure => omega
      case rel => exact ⟨k + 1, by go_num, by omega, by omega, HX2⟩
    · have hltz : ¬ (k : Int) < (N : Int) := by omega
      have hkN : k = N := by omega
      subst hkN
      have hbw : Below w.heap.size w wr := B1.out.trans (HX.out.2.below (by have := B1.out.size; exact this) (fun q _ hq => by omega))
      have hcj : wr.cell? ⟨w.heap.size, 0, none⟩ = some (.slice A k c) := (HX.out.2.cell (p := ⟨w.heap.size, 0, none⟩) (World.block_lt_of_cell? W _ HCJ.out) (by dsimp only; omega)).trans HCJ.out
      have hrn : Rd 1 encI wr (some ⟨w.heap.size + 1, 0, none⟩) (nums k) := HX.out.1.rd (by rw [nums, mk_len]; omega) (fun _ => rfl) (fun m x hx j v hv => by
        have hm : m < k := by have := (List.getElem?_eq_some_iff.1 hx).1; rwa [nums, mk_len] at this
        unfold nums at hx
        rw [mk_at _ hm] at hx
        injection hx with hx
        have hj : j = 0 := by have := (List.getElem?_eq_some_iff.1 hv).1; simp [encI] at this; exact this
        subst hj
        simp only [encI, List.getElem?_cons_zero, Option.some.injEq] at hv
        rw [Nat.mul_one, Nat.add_zero, if_pos hm, hx, hv])
      have hrj : Rd 5 encJ wr A js := HR.out.mod HX.out.2 (fun a ha h0 => by
        obtain ⟨b, off, e, hb, _⟩ := hR0.out h0
        rw [ha] at e
        injection e with e
        subst e
        dsimp only
        omega)
      have HCall := Lib.hid (rSorted_any (some ⟨w.heap.size + 1, 0, none⟩) A k k c w.heap.size js wr hrn hcj hrj HN hN)
      have HBW := Lib.hid hbw
      clear HX hbw hrn hrj
      go_wp2_with fail
      refine HCall.out.mono ?_
      rintro e w2 ⟨a, d, ord, rfl, r1, r2, hb2⟩
      have HP : Hid (OrdPost w js k (.returned (.slice a k d)) w2) := Lib.hid ⟨a, d, ord, rfl, r1, r2, below_then HBW.out hb2⟩
      clear r1 r2 hb2 HCall
      go_wp2_with fail
      go_ret
      exact HP.out
/-- What some returns. -/
def SomePost (w : World) (js : List GJob) (which : List Int) (M : Nat) (e : Ending) (w' : World) : Prop := ∃ a d, e = .returned (.slice a M d) ∧ Rd 5 encJ w' a (someJ js which) ∧ Below w.heap.size w w'
set_option maxRecDepth 100000 in
set_option maxHeartbeats 4000000 in
theorem rSome_any (A A2 : Option Addr) (c N c2 M : Nat) (js : List GJob) (which : List Int) (w : World) (hR : Rd 5 encJ w A js) (HN : Hid (js.length = N)) (hl : N ≤ 9223372036854775807) (hR2 : Rd 1 encI w A2 which) (HM : Hid (which.length = M)) (hM : M ≤ 1000) (HV : Hid (ValidL js.length which)) :
    Calls Try.prog 75 #[.slice A N c, .slice A2 M c2] w (SomePost w js which M) := by
  obtain ⟨mc, hmk, hown⟩ := mk_roomJ M (by omega)
  have HO := Lib.hid (hown w w.heap.size (Nat.le_refl _))
  have HB0 : Hid (Below w.heap.size w (w.alloc (.cells mc 25))) := Lib.hid ((Below.refl _ w).alloc (Nat.le_refl _) _)
  have HR := Lib.hid hR
  have HR2 := Lib.hid hR2
  clear hR hR2 hown
  go_enter Try.func75, Try.ntmps75
  go_wp2
  go_loopg [5, 7, 13] M (fun g1 v5 v7 v13 wr => ∃ (k : Nat), v13 = .int .i64 k ∧ k ≤ M ∧ M - k ≤ g1 ∧ Hid (OwnJ wr w.heap.size v5 (someJ js (which.take k))) ∧ Hid (Below w.heap.size w wr))
  case atStart => exact ⟨0, by go_num, by omega, by omega, HO, HB0⟩
  case round =>
    obtain ⟨k, rfl, hk, hg1, HX, HB⟩ := hrel
    by_cases hlt : k < M
    · have hltz : (k : Int) < (M : Int) := by omega
      obtain ⟨b, off, x, rfl, hbl, hx, hcx⟩ := (HR2.out.keep HB.out).at_ (k := k) (by rw [HM.out]; exact hlt)
      have hc0 : wr.cell? ⟨b, off + k, none⟩ = some (.int .i64 x) := by have := hcx 0 _ rfl; simpa using this
      have hv := HV.out x (List.mem_of_getElem? hx)
      rw [HN.out] at hv
      obtain ⟨i, rfl⟩ : ∃ i : Nat, x = i := ⟨x.toNat, by omega⟩
      have hiz : (i : Int) < (N : Int) := hv.2
      obtain ⟨bj, oj, j, hbe, hbj, hj, k0, k1, k2, k3, k4⟩ := rdJ_at (HR.out.keep HB.out) (k := i) (by rw [HN.out]; omega)
      have hjk : jAt js i = j := by simp [jAt, hj]
      have HSN : Hid (someJ js (which.take (k + 1)) = someJ js (which.take k) ++ [j]) := Lib.hid (by rw [take_snoc hx, someJ_snoc]; simp [hjk])
      have hxl : (someJ js (which.take k)).length ≤ 100000 := by rw [someJ_len, List.length_take]; omega
      obtain ⟨ap, v', w2, av, aw, HO1, HA1⟩ := app_job j.frm j.till j.energy j.rate j.rank HX.out HB.out.size hxl
      have HB2 : Hid (Below w.heap.size w w2) := Lib.hid (HB.out.trans HA1.out.bel)
      have HO2 : Hid (OwnJ w2 w.heap.size v' (someJ js (which.take (k + 1)))) := Lib.hid (by rw [HSN.out]; exact HO1.out)
      subst hbe
      clear HO1 HA1 HX HB HSN hj hjk hx hcx hv
      go_wp2
      go_roundg (M - (k + 1))
      case measure => omega
      case rel => exact ⟨k + 1, by go_num, by omega, by omega, HO2, HB2⟩
    · have hltz : ¬ (k : Int) < (M : Int) := by omega
      have hx := HX.out
      rw [List.take_of_length_le (by rw [HM.out]; omega)] at hx
      have HP : Hid (SomePost w js which M (.returned u5) wr) := Lib.hid (by
        obtain ⟨a1, d1, e1, r1⟩ := hx.rd encJ_len5
        rw [someJ_len, HM.out] at e1
        exact ⟨a1, d1, congrArg Ending.returned e1, r1, HB.out⟩)
      clear hx HX
      go_wp2
      go_ret
      exact HP.out
end Go.Proofs.Ytgfcnkfmgpakkaa
/-
The reference's Order, Some, Has, Ints; slices.Index and Contains: walked.
-/
namespace Go.Proofs.Ytgfcnkfmgpakkaa
open Go.RowKit
set_option linter.unusedVariables false
set_option linter.unusedSimpArgs false
def hasB (xs : List Int) (t : Int) : Bool := decide (t ∈ xs)
theorem hasB_iff {xs : List Int} {t : Int} : hasB xs t = true ↔ t ∈ xs := by unfold hasB; simp
set_option maxRecDepth 100000 in
set_option maxHeartbeats 1600000 in
theorem rrHas_any (A : Option Addr) (c N : Nat) (xs : List Int) (t : Int) (w : World) (hR : Rd 1 encI w A xs) (HN : Hid (xs.length = N)) (hl : N ≤ 9223372036854775807) :
    Calls Try.prog 44 #[.slice A N c, .int .i64 t] w fun e w' => e = .returned (.bool (hasB xs t)) ∧ w' = w := by
  have HR := Lib.hid hR
  clear hR
  go_enter Try.func44, Try.ntmps44
  go_wp2
  go_loopg [5] N (fun g1 v5 wr => ∃ k : Nat, v5 = .int .i64 k ∧ k ≤ N ∧ N - k ≤ g1 ∧ Hid (hasB (xs.take k) t = false) ∧ w = wr)
  case atStart => exact ⟨0, by go_num, by omega, by omega, Lib.hid (by simp [hasB]), rfl⟩
  case round =>
    obtain ⟨k, rfl, hk, hg1, HF, rfl⟩ := hrel
    by_cases hlt : k < N
    · have hltz : (k : Int) < (N : Int) := by omega
      obtain ⟨b, off, hA, hbl, hc0⟩ := HR.out.int (k := k) (by rw [HN.out]; exact hlt)
      subst hA
      have hc1 : w.cell? ⟨b, off + k, none⟩ = some (.int .i64 (fAt xs k)) := hc0
      clear hc0
      have hkx : k < xs.length := by rw [HN.out]; exact hlt
      by_cases he : fAt xs k = (t : Int)
      · have HT : Hid (hasB xs t = true) := Lib.hid (by
          unfold hasB
          rw [decide_eq_true_eq, ← he]
          have : fAt xs k = xs[k] := by simp [fAt, List.getElem?_eq_getElem hkx]
          rw [this]
          exact List.getElem_mem hkx)
        have hb : (fAt xs k == t) = true := by rw [he]; simp
        clear he
        generalize fAt xs k = x at *
        go_wp2
        go_ret
        exact ⟨ret_bool HT.out.symm, rfl⟩
      · have HF2 : Hid (hasB (xs.take (k + 1)) t = false) := Lib.hid (by
          have h1 := HF.out
          unfold hasB at *
          rw [decide_eq_false_iff_not] at *
          rw [mem_take_succ hkx]
          rintro (h | h)
          · exact h1 h
          · exact he h.symm)
        have hb : (fAt xs k == t) = false := by rw [beq_eq_false_iff_ne]; exact he
        clear he
        generalize fAt xs k = x at *
        go_wp2
        go_roundg (N - (k + 1))
        case measure => omega
        case rel => exact ⟨k + 1, by go_num, by omega, by omega, HF2, rfl⟩
    · have hltz : ¬ (k : Int) < (N : Int) := by omega
      have HF2 : Hid (hasB xs t = false) := Lib.hid (by have := HF.out; rwa [List.take_of_length_le (by rw [HN.out]; omega)] at this)
      go_wp2
      go_ret
      exact ⟨ret_bool HF2.out.symm, rfl⟩
set_option maxRecDepth 100000 in
set_option maxHeartbeats 2000000 in
theorem rrInts_any (xs ys : List Int) (a b : Option Addr) (c d n m : Nat) (w : World) (hx : Rd 1 encI w a xs) (HN : Hid (xs.length = n)) (hn : n ≤ 1000000000) (hy : Rd 1 encI w b ys) (HM : Hid (ys.length = m)) (hm : m ≤ 1000000000) :
    Calls Try.prog 39 #[.slice a n c, .slice b m d] w fun e w' => e = .returned (.bool (sameL xs ys)) ∧ Below w.heap.size w w' := by
  have HX := Lib.hid hx
  have HY := Lib.hid hy
  clear hx hy
  by_cases hne : n = m
  · have hd : ((n : Int) != (m : Int)) = false := by subst hne; simp
    have HE := Lib.hid hne
    clear hne
    go_enter Try.func39, Try.ntmps39
    go_wp2
    go_loopg [5] n (fun g1 vi wr => ∃ i q : Nat, vi = .int .i64 i ∧ i ≤ n ∧ n - i ≤ g1 ∧ Hid (xs.take i = ys.take i) ∧ Hid (wr = w.drewN q))
    case atStart => exact ⟨0, 0, by go_num, by omega, by omega, Lib.hid rfl, Lib.hid rfl⟩
    case round =>
      obtain ⟨i, q, rfl, hi, hg1, HT, HW⟩ := hrel
      obtain rfl := HW.out
      clear HW
      by_cases hlt : i < n
      · have hltz : (i : Int) < (n : Int) := by omega
        have hltm : (i : Int) < (m : Int) := by have := HE.out; omega
        obtain ⟨bx, ox, x, rfl, lx, hxi, cx0⟩ := HX.out.at_ (k := i) (by rw [HN.out]; exact hlt)
        obtain ⟨by', oy, y, rfl, ly, hyi, cy0⟩ := HY.out.at_ (k := i) (by rw [HM.out]; have := HE.out; omega)
        have cx : w.cell? ⟨bx, ox + i, none⟩ = some (.int .i64 x) := by have := cx0 0 _ rfl; simpa using this
        have cy : w.cell? ⟨by', oy + i, none⟩ = some (.int .i64 y) := by have := cy0 0 _ rfl; simpa using this
        clear cx0 cy0
        have HXI := Lib.hid hxi
        have HYI := Lib.hid hyi
        clear hxi hyi lx ly
        by_cases he : x = y
        · have HEQ : Hid (xs.take (i + 1) = ys.take (i + 1)) := Lib.hid (by rw [take_snoc HXI.out, take_snoc HYI.out, HT.out, he])
          subst he
          have hb := (show (x != x) = false by simp)
          clear HT HXI HYI
          go_wp2_with fail
          go_quiet (fail)
          go_wp2
          go_roundg (n - (i + 1))
          case measure => omega
          case rel => exact ⟨i + 1, _, by go_num, by omega, by omega, HEQ, Lib.hid rfl⟩
        · have HEQ : Hid (sameL xs ys = false) := Lib.hid (sameL_not (by intro e; subst e; have := HXI.out.symm.trans HYI.out; injection this with h; exact he h))
          have hb := (show (x != y) = true by rw [bne_iff_ne]; exact he)
          clear HT HXI HYI he
          go_wp2_with fail
          go_quiet (fail)
          go_wp2
          go_ret
          exact ⟨ret_bool HEQ.out.symm, below_drewN (below_drewN (Below.refl _ _) _) _⟩
      · have hltz : ¬ (i : Int) < (n : Int) := by omega
        have HEQ : Hid (sameL xs ys = true) := Lib.hid (sameL_iff.2 (by
          have := HT.out
          rwa [List.take_of_length_le (by rw [HN.out]; omega), List.take_of_length_le (by rw [HM.out]; have := HE.out; omega)] at this))
        go_wp2
        go_ret
        exact ⟨ret_bool HEQ.out.symm, below_drewN (Below.refl _ _) _⟩
  · have hd : ((n : Int) != (m : Int)) = true := by rw [bne_iff_ne]; omega
    have HEQ : Hid (sameL xs ys = false) := Lib.hid (sameL_not (by intro e; exact hne (by rw [← HN.out, ← HM.out, e])))
    clear hne
    go_enter Try.func39, Try.ntmps39
    go_wp2
    go_ret
    exact ⟨ret_bool HEQ.out.symm, Below.refl _ _⟩


/-- The numbers from 0 below k of those of a rank. -/
def rankL (js : List GJob) (r : Int) (k : Nat) : List Int := ((List.range k).filter (fun i => decide ((jAt js i).rank = r))).map (fun (i : Nat) => (i : Int))
theorem rankL_succ (js : List GJob) (r : Int) (k : Nat) : rankL js r (k + 1) = rankL js r k ++ (if (jAt js k).rank = r then [(k : Int)] else []) := by
  unfold rankL
  rw [List.range_succ, List.filter_append, List.map_append]
  congr 1
  by_cases h : (jAt js k).rank = r <;> simp [h]
theorem mem_rankL {js : List GJob} {r : Int} {k : Nat} {x : Int} : x ∈ rankL js r k ↔ 0 ≤ x ∧ x < k ∧ (jAt js x.toNat).rank = r := by
  unfold rankL
  simp only [List.mem_map, List.mem_filter, List.mem_range, decide_eq_true_eq]
  constructor
  · rintro ⟨i, ⟨h1, h2⟩, rfl⟩
    exact ⟨by omega, by omega, by simpa using h2⟩
  · rintro ⟨h0, h1, h2⟩
    exact ⟨x.toNat, ⟨by omega, h2⟩, by omega⟩
theorem rankL_len (js : List GJob) (r : Int) (k : Nat) : (rankL js r k).length ≤ k := by
  unfold rankL
  rw [List.length_map]
  exact Nat.le_trans (List.length_filter_le _ _) (by simp)
def ordUp (js : List GJob) : Nat → List Int
  | 0 => []
  | r + 1 => ordUp js r ++ rankL js ((r : Int) + 1) js.length
theorem mem_ordUp {js : List GJob} {x : Int} : ∀ {r : Nat}, x ∈ ordUp js r ↔ 0 ≤ x ∧ x < js.length ∧ 1 ≤ (jAt js x.toNat).rank ∧ (jAt js x.toNat).rank ≤ r
  | 0 => by simp [ordUp]; omega
  | r + 1 => by
    show x ∈ ordUp js r ++ _ ↔ _
    rw [List.mem_append, mem_ordUp, mem_rankL]
    omega
theorem ordUp_len (js : List GJob) : ∀ r, (ordUp js r).length ≤ r * js.length
  | 0 => by simp [ordUp]
  | r + 1 => by
    show (ordUp js r ++ _).length ≤ _
    have h1 := ordUp_len js r
    have h2 := rankL_len js ((r : Int) + 1) js.length
    rw [List.length_append, Nat.add_mul]
    omega
theorem rankL_sorted (js : List GJob) (r : Int) (k : Nat) : (rankL js r k).Pairwise (before js) := by
  unfold rankL
  rw [List.pairwise_map]
  have h1 : ((List.range k).filter (fun i => decide ((jAt js i).rank = r))).Pairwise (· < ·) := (List.pairwise_lt_range).filter _
  refine List.Pairwise.imp_of_mem (fun {a b} ha hb hab => ?_) h1
  simp only [List.mem_filter, List.mem_range, decide_eq_true_eq] at ha hb
  right
  simp only [Int.toNat_natCast]
  exact ⟨ha.2.trans hb.2.symm, by omega⟩
theorem ordUp_sorted (js : List GJob) : ∀ r, (ordUp js r).Pairwise (before js)
  | 0 => List.Pairwise.nil
  | r + 1 => by
    show (ordUp js r ++ _).Pairwise _
    rw [List.pairwise_append]
    refine ⟨ordUp_sorted js r, rankL_sorted js _ _, fun a ha b hb => ?_⟩
    have h1 := mem_ordUp.1 ha
    have h2 := mem_rankL.1 hb
    left
    omega
theorem ordUp_ord {js : List GJob} {sup : List Int} (hok : okP js sup = true) : IsOrd js (ordUp js 9) :=
  ⟨fun x => by
    rw [mem_ordUp]
    constructor
    · rintro ⟨a, b, _⟩; exact ⟨a, b⟩
    · rintro ⟨a, b⟩
      obtain ⟨_, _, _, _, _, _, _, r1, r2⟩ := okP_job hok (i := x.toNat) (by omega)
      exact ⟨a, b, r1, r2⟩, ordUp_sorted js 9⟩
set_option maxRecDepth 100000 in
set_option maxHeartbeats 4000000 in
theorem rrOrder_any (A : Option Addr) (c N : Nat) (js : List GJob) (sup : List Int) (w : World) (hR : Rd 5 encJ w A js) (HN : Hid (js.length = N)) (hok : okP js sup = true) :
    Calls Try.prog 43 #[.slice A N c] w (OrdPost w js N) := by
  have hN : N ≤ 12 := by have := (okP_iff.1 hok).1.1; rw [HN.out] at this; exact this
  have HO9 := Lib.hid (ordUp_ord hok)
  have HR := Lib.hid hR
  have HO0 : Hid (OwnN w w.heap.size (.slice none 0 0) (ordUp js 0)) := Lib.hid (OwnR.nil _ _)
  clear hR hok
  go_enter Try.func43, Try.ntmps43
  go_wp2
  go_loopg [3, 4, 5] 10 (fun g1 v3 v4 v5 wr => ∃ r : Nat, v4 = .int .i64 ((r : Int) + 1) ∧ r ≤ 9 ∧ 9 - r < g1 ∧ Hid (OwnN wr w.heap.size v3 (ordUp js r)) ∧ Hid (Below w.heap.size w wr))
  case atStart => exact ⟨0, by go_num, by omega, by omega, HO0, Lib.hid (Below.refl _ _)⟩
  case round =>
    clear HO0
    obtain ⟨r, rfl, hr, hg1, HX, HB⟩ := hrel
    by_cases hlt : r < 9
    · have hltz : (r : Int) + 1 ≤ 9 := by omega
      have hul := ordUp_len js r
      rw [HN.out] at hul
      have hul2 : (ordUp js r).length ≤ 200 := Nat.le_trans hul (Nat.le_trans (Nat.mul_le_mul hr hN) (by omega))
      have HXS : Hid (OwnN wr w.heap.size u3 (ordUp js r ++ rankL js ((r : Int) + 1) 0)) := Lib.hid (by simpa [rankL] using HX.out)
      clear hul HX
      go_wp2
      go_loopg [3, 5] N (fun g2 v3 v5 wx => ∃ k : Nat, v5 = .int .i64 k ∧ k ≤ N ∧ N - k ≤ g2 ∧ Hid (OwnN wx w.heap.size v3 (ordUp js r ++ rankL js ((r : Int) + 1) k)) ∧ Hid (Below w.heap.size w wx))
      case atStart => exact ⟨0, by go_num, by omega, by omega, HXS, HB⟩
      case round =>
        clear HXS HB
        obtain ⟨k, rfl, hk, hg2, HX, HB⟩ := hrel
        by_cases hkt : k < N
        · have hktz : (k : Int) < (N : Int) := by omega
          obtain ⟨bj, oj, j, hbe, hbj, hj, k0, k1, k2, k3, k4⟩ := rdJ_at (HR.out.keep HB.out) (k := k) (by rw [HN.out]; exact hkt)
          have hjk : jAt js k = j := by simp [jAt, hj]
          have hsn := rankL_succ js ((r : Int) + 1) k
          rw [hjk] at hsn
          have hl2 := rankL_len js ((r : Int) + 1) k
          subst hbe
          clear hj hjk
          by_cases hrk : j.rank = (r : Int) + 1
          · have hrz : (j.rank == (r : Int) + 1) = true := by simp [hrk]
            rw [if_pos hrk] at hsn
            have HSN := Lib.hid hsn
            obtain ⟨ap, v', w2, av, aw, HO1, HA1⟩ := app_num (k : Int) HX.out HB.out.size (by rw [List.length_append]; omega)
            have HB2 : Hid (Below w.heap.size w w2) := Lib.hid (HB.out.trans HA1.out.bel)
            have HO2 : Hid (OwnN w2 w.heap.size v' (ordUp js r ++ rankL js ((r : Int) + 1) (k + 1))) := Lib.hid (by rw [HSN.out, ← List.append_assoc]; exact HO1.out)
            clear HO1 HA1 HX HB HSN hsn hrk
            go_wp2
            go_roundg (N - (k + 1))
            case measure => omega
            case rel => exact ⟨k + 1, by go_num, by omega, by omega, HO2, HB2⟩
          · have hrz : (j.rank == (r : Int) + 1) = false := by simp [hrk]
            rw [if_neg hrk, List.append_nil] at hsn
            have HO2 : Hid (OwnN wr w.heap.size u3 (ordUp js r ++ rankL js ((r : Int) + 1) (k + 1))) := Lib.hid (by rw [hsn]; exact HX.out)
            clear HX hsn hrk
            go_wp2
            go_roundg (N - (k + 1))
            case measure => omega
            case rel => exact ⟨k + 1, by go_num, by omega, by omega, HO2, HB⟩
        · have hktz : ¬ (k : Int) < (N : Int) := by omega
          have HO2 : Hid (OwnN wr w.heap.size u3 (ordUp js (r + 1))) := Lib.hid (by
            have := HX.out
            rw [show k = js.length by rw [HN.out]; omega] at this
            exact this)
          clear HX
          go_wp2
          go_roundg (9 - r)
          case measure => omega
          case rel => exact ⟨r + 1, by go_num, by omega, by omega, HO2, HB⟩
    · have hltz : ¬ (r : Int) + 1 ≤ 9 := by omega
      have hr9 : r = 9 := by omega
      subst hr9
      have HP : Hid (OrdPost w js N (.returned u3) wr) := Lib.hid (by
        obtain ⟨a1, d1, e1, r1⟩ := HX.out.rd encI_len1
        rw [HO9.out.len, HN.out] at e1
        exact ⟨a1, d1, _, congrArg Ending.returned e1, r1, HO9.out, HB.out⟩)
      clear HX HB
      go_wp2
      go_ret
      exact HP.out
set_option maxRecDepth 100000 in
set_option maxHeartbeats 4000000 in
theorem rrSome_any (A A2 : Option Addr) (c N c2 M : Nat) (js : List GJob) (which : List Int) (w : World) (hR : Rd 5 encJ w A js) (HN : Hid (js.length = N)) (hl : N ≤ 9223372036854775807) (hR2 : Rd 1 encI w A2 which) (HM : Hid (which.length = M)) (hM : M ≤ 1000) (HV : Hid (ValidL js.length which)) :
    Calls Try.prog 46 #[.slice A N c, .slice A2 M c2] w (SomePost w js which M) := by
  have HO : Hid (OwnJ w w.heap.size (.slice none 0 0) (someJ js (which.take 0))) := Lib.hid (OwnR.nil _ _)
  have HR := Lib.hid hR
  have HR2 := Lib.hid hR2
  clear hR hR2
  go_enter Try.func46, Try.ntmps46
  go_wp2
  go_loopg [5, 6] M (fun g1 v5 v6 wr => ∃ (k : Nat), v6 = .int .i64 k ∧ k ≤ M ∧ M - k ≤ g1 ∧ Hid (OwnJ wr w.heap.size v5 (someJ js (which.take k))) ∧ Hid (Below w.heap.size w wr))
  case atStart => exact ⟨0, by go_num, by omega, by omega, HO, Lib.hid (Below.refl _ _)⟩
  case round =>
    obtain ⟨k, rfl, hk, hg1, HX, HB⟩ := hrel
    by_cases hlt : k < M
    · have hltz : (k : Int) < (M : Int) := by omega
      obtain ⟨b, off, x, rfl, hbl, hx, hcx⟩ := (HR2.out.keep HB.out).at_ (k := k) (by rw [HM.out]; exact hlt)
      have hc0 : wr.cell? ⟨b, off + k, none⟩ = some (.int .i64 x) := by have := hcx 0 _ rfl; simpa using this
      have hv := HV.out x (List.mem_of_getElem? hx)
      rw [HN.out] at hv
      obtain ⟨i, rfl⟩ : ∃ i : Nat, x = i := ⟨x.toNat, by omega⟩
      have hiz : (i : Int) < (N : Int) := hv.2
      obtain ⟨bj, oj, j, hbe, hbj, hj, k0, k1, k2, k3, k4⟩ := rdJ_at (HR.out.keep HB.out) (k := i) (by rw [HN.out]; omega)
      have hjk : jAt js i = j := by simp [jAt, hj]
      have HSN : Hid (someJ js (which.take (k + 1)) = someJ js (which.take k) ++ [j]) := Lib.hid (by rw [take_snoc hx, someJ_snoc]; simp [hjk])
      have hxl : (someJ js (which.take k)).length ≤ 100000 := by rw [someJ_len, List.length_take]; omega
      obtain ⟨ap, v', w2, av, aw, HO1, HA1⟩ := app_job j.frm j.till j.energy j.rate j.rank HX.out HB.out.size hxl
      have HB2 : Hid (Below w.heap.size w w2) := Lib.hid (HB.out.trans HA1.out.bel)
      have HO2 : Hid (OwnJ w2 w.heap.size v' (someJ js (which.take (k + 1)))) := Lib.hid (by rw [HSN.out]; exact HO1.out)
      subst hbe
      clear HO1 HA1 HX HB HSN hj hjk hx hcx hv
      go_wp2
      go_roundg (M - (k + 1))
      case measure => omega
      case rel => exact ⟨k + 1, by go_num, by omega, by omega, HO2, HB2⟩
    · have hltz : ¬ (k : Int) < (M : Int) := by omega
      have hx := HX.out
      rw [List.take_of_length_le (by rw [HM.out]; omega)] at hx
      have HP : Hid (SomePost w js which M (.returned u5) wr) := Lib.hid (by
        obtain ⟨a1, d1, e1, r1⟩ := hx.rd encJ_len5
        rw [someJ_len, HM.out] at e1
        exact ⟨a1, d1, congrArg Ending.returned e1, r1, HB.out⟩)
      clear hx HX
      go_wp2
      go_ret
      exact HP.out
def IdxPost (w : World) (xs : List Int) (t : Int) (e : Ending) (w' : World) : Prop := ∃ i : Int, e = .returned (.int .i64 i) ∧ (0 ≤ i ↔ t ∈ xs) ∧ w' = w
set_option maxRecDepth 100000 in
set_option maxHeartbeats 1600000 in
theorem sIndex_any (A : Option Addr) (c N : Nat) (xs : List Int) (t : Int) (w : World) (hR : Rd 1 encI w A xs) (HN : Hid (xs.length = N)) (hl : N ≤ 9223372036854775807) :
    Calls Try.prog 119 #[.slice A N c, .int .i64 t] w (IdxPost w xs t) := by
  have HR := Lib.hid hR
  clear hR
  go_enter Try.func119, Try.ntmps119
  go_wp2
  go_loopg [5, 8] N (fun g1 v5 v8 wr => ∃ k : Nat, v8 = .int .i64 k ∧ k ≤ N ∧ N - k ≤ g1 ∧ Hid (¬ t ∈ xs.take k) ∧ w = wr)
  case atStart => exact ⟨0, by go_num, by omega, by omega, Lib.hid (by simp), rfl⟩
  case round =>
    obtain ⟨k, rfl, hk, hg1, HF, rfl⟩ := hrel
    by_cases hlt : k < N
    · have hltz : (k : Int) < (N : Int) := by omega
      obtain ⟨b, off, hA, hbl, hc0⟩ := HR.out.int (k := k) (by rw [HN.out]; exact hlt)
      subst hA
      have hc1 : w.cell? ⟨b, off + k, none⟩ = some (.int .i64 (fAt xs k)) := hc0
      clear hc0
      have hkx : k < xs.length := by rw [HN.out]; exact hlt
      by_cases he : t = fAt xs k
      · have HT : Hid (t ∈ xs) := Lib.hid (by rw [he]; exact fAt_mem hkx)
        have HP : Hid (IdxPost w xs t (.returned (.int .i64 (k : Int))) w) := Lib.hid ⟨k, rfl, ⟨fun _ => HT.out, fun _ => by omega⟩, rfl⟩
        have hb : (t == fAt xs k) = true := by rw [he]; simp
        clear he
        generalize fAt xs k = x at *
        go_wp2
        go_ret
        exact HP.out
      · have HF2 : Hid (¬ t ∈ xs.take (k + 1)) := Lib.hid (by
          rw [mem_take_succ hkx]
          rintro (h | h)
          · exact HF.out h
          · exact he h)
        have hb : (t == fAt xs k) = false := by rw [beq_eq_false_iff_ne]; exact he
        clear he
        generalize fAt xs k = x at *
        go_wp2
        go_roundg (N - (k + 1))
        case measure => omega
        case rel => exact ⟨k + 1, by go_num, by omega, by omega, HF2, rfl⟩
    · have hltz : ¬ (k : Int) < (N : Int) := by omega
      have HP : Hid (IdxPost w xs t (.returned (.int .i64 (-1))) w) := Lib.hid ⟨-1, rfl, ⟨fun h => by omega, fun h => absurd h (by have := HF.out; rwa [List.take_of_length_le (by rw [HN.out]; omega)] at this)⟩, rfl⟩
      go_wp2
      go_ret
      exact HP.out
theorem sContains_any (A : Option Addr) (c N : Nat) (xs : List Int) (t : Int) (w : World) (hR : Rd 1 encI w A xs) (HN : Hid (xs.length = N)) (hl : N ≤ 9223372036854775807) :
    Calls Try.prog 95 #[.slice A N c, .int .i64 t] w fun e w' => e = .returned (.bool (hasB xs t)) ∧ w' = w := by
  go_enter Try.func95, Try.ntmps95
  go_wp2_with fail
  refine (sIndex_any A c N xs t w hR HN hl).mono ?_
  rintro e w1 ⟨i, rfl, hi, rfl⟩
  have HE : Hid (hasB xs t = decide (0 ≤ i)) := Lib.hid (by unfold hasB; rw [decide_eq_decide]; exact hi.symm)
  clear hi
  go_wp2_with fail
  go_ret
  exact ⟨ret_bool HE.out.symm, rfl⟩
end Go.Proofs.Ytgfcnkfmgpakkaa
