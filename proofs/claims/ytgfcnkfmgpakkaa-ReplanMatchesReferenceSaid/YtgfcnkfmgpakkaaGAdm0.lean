/-
Several texts in one: AdmA, AdmB0.
-/
import Derived.Test.YtgfcnkfmgpakkaaGAppJ
import Derived.Test.YtgfcnkfmgpakkaaGMath
/-
admit.with, walked.
-/
namespace Go.Proofs.Ytgfcnkfmgpakkaa
open Go.RowKit
set_option linter.unusedVariables false
set_option linter.unusedSimpArgs false
set_option maxRecDepth 100000 in
set_option maxHeartbeats 4000000 in
theorem aWith_any (A : Option Addr) (c N : Nat) (js : List GJob) (x : GJob) (w : World) (hR : Rd 5 encJ w A js) (HN : Hid (js.length = N)) (hN : N ≤ 1000) :
    Calls Try.prog 48 #[.slice A N c, .agg #[.int .i64 x.frm, .int .i64 x.till, .int .i64 x.energy, .int .i64 x.rate, .int .i64 x.rank]] w fun e w' => ∃ a d, e = .returned (.slice a (N + 1) d) ∧ Rd 5 encJ w' a (js ++ [x]) ∧ Below w.heap.size w w' := by
  obtain ⟨mc, hmk0, hown⟩ := mk_roomJ (N + 1) (by omega)
  have hmk : ∀ W : World, (Instr.makeSlice 22 (.int .i64 0) (.int .i64 ((N : Int) + 1))).run Try.prog W = .ok (.slice (some ⟨W.heap.size, 0, none⟩) 0 (N + 1)) (W.alloc (.cells mc 25)) := hmk0
  obtain ⟨Wb, hWb⟩ : ∃ Wb, Wb = w.alloc (.cells #[.int .i64 x.frm, .int .i64 x.till, .int .i64 x.energy, .int .i64 x.rate, .int .i64 x.rank] 25) := ⟨_, rfl⟩
  have a0 : Below w.heap.size w Wb := by rw [hWb]; exact (Below.refl _ w).alloc (Nat.le_refl _) _
  have hs0 : w.heap.size + 1 ≤ Wb.heap.size := by rw [hWb]; simp
  obtain ⟨pB1, vB1, WB1, pB2, pB3, pB4, vB2, WB2, pB5, pB6, oB, bB1, bB2⟩ := made_B (W := Wb) (c := c) (ys := [x]) (m := 1) (lit := #[.int .i64 x.frm, .int .i64 x.till, .int .i64 x.energy, .int .i64 x.rate, .int .i64 x.rank]) hown (hR.keep a0) HN.out rfl rfl (by omega)
  obtain ⟨pC1, vC1, WC1, pC2, pC3, pC4, vC2, WC2, pC5, pC6, oC, bC1, bC2⟩ := made_C (W := Wb) (c := c) (ys := [x]) (m := 1) (lit := #[.int .i64 x.frm, .int .i64 x.till, .int .i64 x.energy, .int .i64 x.rate, .int .i64 x.rank]) hown (hR.keep a0) HN.out rfl rfl (by omega)
  have k0 : Wb.cell? ⟨w.heap.size, 0, none⟩ = some (.int .i64 x.frm) := by rw [hWb]; go_simp
  have k1 : Wb.cell? ⟨w.heap.size, 1, none⟩ = some (.int .i64 x.till) := by rw [hWb]; go_simp
  have k2 : Wb.cell? ⟨w.heap.size, 2, none⟩ = some (.int .i64 x.energy) := by rw [hWb]; go_simp
  have k3 : Wb.cell? ⟨w.heap.size, 3, none⟩ = some (.int .i64 x.rate) := by rw [hWb]; go_simp
  have k4 : Wb.cell? ⟨w.heap.size, 4, none⟩ = some (.int .i64 x.rank) := by rw [hWb]; go_simp
  have bm : Below Wb.heap.size Wb (Wb.alloc (.cells mc 25)) := (Below.refl _ _).alloc (Nat.le_refl _) _
  have HWb := Lib.hid hWb.symm
  clear hWb hmk0
  go_enter Try.func48, Try.ntmps48
  go_upto_region 1 with (fail)
  rw [HWb.out]
  go_wp2
  refine region_z (S := fun w' => Below Wb.heap.size Wb w') [6] (by kernel_rfl) bm.drew (fun hHeld => ?_)
  refine wpAnyZ_take (i := 0) (v := .slice (some ⟨Wb.heap.size, 0, none⟩) 0 (N + 1)) [6] rfl (by kernel_rfl) (by kernel_rfl) (by kernel_rfl) (by kernel_rfl) (fun _ _ _ h => h) (Or.inl ⟨by rfl, fun w' hSw => ?_⟩) hHeld ?_
  · clear hHeld
    go_simp
  simp only [Act.put, List.setIfInBounds_toArray, List.set_cons_zero, List.set_cons_succ]
  refine wpAnyZ_take (i := 1) (v := .slice A N c) [6] rfl (by kernel_rfl) (by kernel_rfl) (by kernel_rfl) (by kernel_rfl) (fun _ _ _ h => h) (Or.inl ⟨by rfl, fun w' hSw => ?_⟩) hHeld ?_
  · clear hHeld
    go_simp
  simp only [Act.put, List.setIfInBounds_toArray, List.set_cons_zero, List.set_cons_succ]
  refine wpAnyZ_take (i := 3) (v := .agg #[.int .i64 x.frm, .int .i64 x.till, .int .i64 x.energy, .int .i64 x.rate, .int .i64 x.rank]) [6] rfl (by kernel_rfl) (by kernel_rfl) (by kernel_rfl) (by kernel_rfl) (fun _ _ _ h => h) (Or.inl ⟨by rfl, fun w' hSw => ?_⟩) hHeld ?_
  · clear hHeld
    have s0 := (hSw.cell (p := ⟨w.heap.size, 0, none⟩) (by dsimp only; omega)).trans k0
    have s1 := (hSw.cell (p := ⟨w.heap.size, 1, none⟩) (by dsimp only; omega)).trans k1
    have s2 := (hSw.cell (p := ⟨w.heap.size, 2, none⟩) (by dsimp only; omega)).trans k2
    have s3 := (hSw.cell (p := ⟨w.heap.size, 3, none⟩) (by dsimp only; omega)).trans k3
    have s4 := (hSw.cell (p := ⟨w.heap.size, 4, none⟩) (by dsimp only; omega)).trans k4
    go_simp
  simp only [Act.put, List.setIfInBounds_toArray, List.set_cons_zero, List.set_cons_succ]
  refine wpAnyZ_two (i := 2) (k := 4) (by kernel_rfl) rfl rfl (fun K' hK => ?_) (fun K' hK => ?_)
  · rw [if_pos (by rfl)]
    refine append_go rfl rfl pC1 pC2 pC3 ?_
    refine hK.out _ _ ?_ (fun hHeld => ?_)
    · exact bC1.out
    clear hK K'
    try simp only [Act.put, List.setIfInBounds_toArray, List.set_cons_zero, List.set_cons_succ]
    refine wpAnyZ_one (i := 4) (by kernel_rfl) rfl (fun K' hK => ?_)
    go_simp
    refine hK.out _ _ ?_ (fun hHeld => ?_)
    · exact hHeld.alloc hHeld.size _
    clear hK K'
    try simp only [Act.put, List.setIfInBounds_toArray, List.set_cons_zero, List.set_cons_succ]
    refine wpAnyZ_one (i := 5) (by kernel_rfl) rfl (fun K' hK => ?_)
    rw [if_pos (by rfl)]
    refine append_go rfl rfl pC4 pC5 pC6 ?_
    refine hK.out _ _ ?_ (fun hHeld => ?_)
    · exact bC2.out
    clear hK K'
    try simp only [Act.put, List.setIfInBounds_toArray, List.set_cons_zero, List.set_cons_succ]
    refine wpAnyZ_last (i := 6) (by kernel_rfl) rfl (by kernel_rfl) (fun K' hK => ?_)
    go_simp
    refine hK.out _ _ ?_
    clear hK K'
    try simp only [Act.put, List.setIfInBounds_toArray, List.set_cons_zero, List.set_cons_succ]
    refine wpAnyZ_done (by kernel_rfl) ?_ _
    clear hHeld
    go_step
    go_wp2_with fail
    go_ret
    obtain ⟨a1, d1, e1, r1⟩ := oC.out.rd encJ_len5
    rw [List.length_append, HN.out] at e1
    exact ⟨a1, d1, congrArg Ending.returned e1, r1, below_then a0 bC2.out⟩
  · go_simp
    refine hK.out _ _ ?_ (fun hHeld => ?_)
    · exact hHeld.alloc hHeld.size _
    clear hK K'
    try simp only [Act.put, List.setIfInBounds_toArray, List.set_cons_zero, List.set_cons_succ]
    refine wpAnyZ_one (i := 2) (by kernel_rfl) rfl (fun K' hK => ?_)
    rw [if_pos (by rfl)]
    refine append_go rfl rfl pB1 pB2 pB3 ?_
    refine hK.out _ _ ?_ (fun hHeld => ?_)
    · exact bB1.out
    clear hK K'
    try simp only [Act.put, List.setIfInBounds_toArray, List.set_cons_zero, List.set_cons_succ]
    refine wpAnyZ_one (i := 5) (by kernel_rfl) rfl (fun K' hK => ?_)
    rw [if_pos (by rfl)]
    refine append_go rfl rfl pB4 pB5 pB6 ?_
    refine hK.out _ _ ?_ (fun hHeld => ?_)
    · exact bB2.out
    clear hK K'
    try simp only [Act.put, List.setIfInBounds_toArray, List.set_cons_zero, List.set_cons_succ]
    refine wpAnyZ_last (i := 6) (by kernel_rfl) rfl (by kernel_rfl) (fun K' hK => ?_)
    go_simp
    refine hK.out _ _ ?_
    clear hK K'
    try simp only [Act.put, List.setIfInBounds_toArray, List.set_cons_zero, List.set_cons_succ]
    refine wpAnyZ_done (by kernel_rfl) ?_ _
    clear hHeld
    go_step
    go_wp2_with fail
    go_ret
    obtain ⟨a1, d1, e1, r1⟩ := oB.out.rd encJ_len5
    rw [List.length_append, HN.out] at e1
    exact ⟨a1, d1, congrArg Ending.returned e1, r1, below_then a0 bB2.out⟩
end Go.Proofs.Ytgfcnkfmgpakkaa
/-
Words for the walks of admit: a variable that holds a job.
-/
namespace Go.Proofs.Ytgfcnkfmgpakkaa
open Go.RowKit
set_option linter.unusedVariables false
set_option linter.unusedSimpArgs false
abbrev jobV (x : GJob) : Value := .agg #[.int .i64 x.frm, .int .i64 x.till, .int .i64 x.energy, .int .i64 x.rate, .int .i64 x.rank]
abbrev jobCs (x : GJob) : Array Value := #[.int .i64 x.frm, .int .i64 x.till, .int .i64 x.energy, .int .i64 x.rate, .int .i64 x.rank]
/-- A variable that holds a job. -/
structure JobAt (W : World) (b : Nat) (x : GJob) : Prop where
  k0 : W.cell? ⟨b, 0, none⟩ = some (.int .i64 x.frm)
  k1 : W.cell? ⟨b, 1, none⟩ = some (.int .i64 x.till)
  k2 : W.cell? ⟨b, 2, none⟩ = some (.int .i64 x.energy)
  k3 : W.cell? ⟨b, 3, none⟩ = some (.int .i64 x.rate)
  k4 : W.cell? ⟨b, 4, none⟩ = some (.int .i64 x.rank)
theorem JobAt.new (w : World) (x : GJob) : JobAt (w.alloc (.cells #[.int .i64 x.frm, .int .i64 x.till, .int .i64 x.energy, .int .i64 x.rate, .int .i64 x.rank] 25)) w.heap.size x :=
  ⟨by go_simp, by go_simp, by go_simp, by go_simp, by go_simp⟩
theorem JobAt.lt {W : World} {b : Nat} {x : GJob} (h : JobAt W b x) : b < W.heap.size := World.block_lt_of_cell? W _ h.k0
theorem JobAt.keep {W W' : World} {b : Nat} {x : GJob} (h : JobAt W b x) (hb : Below W.heap.size W W') : JobAt W' b x :=
  ⟨(hb.cell (p := ⟨b, 0, none⟩) h.lt).trans h.k0, (hb.cell (p := ⟨b, 1, none⟩) h.lt).trans h.k1, (hb.cell (p := ⟨b, 2, none⟩) h.lt).trans h.k2, (hb.cell (p := ⟨b, 3, none⟩) h.lt).trans h.k3, (hb.cell (p := ⟨b, 4, none⟩) h.lt).trans h.k4⟩
theorem rd_oneJ (W : World) (x : GJob) : Rd 5 encJ (W.alloc (.cells #[.int .i64 x.frm, .int .i64 x.till, .int .i64 x.energy, .int .i64 x.rate, .int .i64 x.rank] 25)) (some ⟨W.heap.size, 0, none⟩) [x] := rd_litA (ys := [x]) rfl W
def jobF (x : GJob) (i : Nat) : Value := if i = 0 then .int .i64 x.frm else if i = 1 then .int .i64 x.till else if i = 2 then .int .i64 x.energy else if i = 3 then .int .i64 x.rate else .int .i64 x.rank
theorem jobNew (w : World) (x : GJob) : Own (w.alloc (.cells #[.int .i64 x.frm, .int .i64 x.till, .int .i64 x.energy, .int .i64 x.rate, .int .i64 x.rank] 25)) w.heap.size 25 5 (jobF x) := by
  refine (Own.new w 25 #[.int .i64 x.frm, .int .i64 x.till, .int .i64 x.energy, .int .i64 x.rate, .int .i64 x.rank] undef).congr (fun i hi => ?_)
  have hi' : i < 5 := hi
  rcases i with _ | _ | _ | _ | _ | i
  all_goals first | rfl | omega
theorem Rd.cells {α : Type} {sz : Nat} {enc : α → List Value} {W W' : World} {A : Option Addr} {xs : List α} (h : Rd sz enc W A xs) (hs : W.heap.size ≤ W'.heap.size) (hc : ∀ p v, W.cell? p = some v → W'.cell? p = some v) : Rd sz enc W' A xs := by
  intro hn
  obtain ⟨b, off, hA, hlt, hcc⟩ := h hn
  exact ⟨b, off, hA, by omega, fun k x hx j v hv => hc _ _ (hcc k x hx j v hv)⟩
/-- A cell that is written with what it holds. -/
theorem cell_again {W : World} {q : Addr} {u : Value} (hq : W.cell? q = some u) (p : Addr) (v : Value) (h : W.cell? p = some v) : (W.setCell q u).cell? p = some v := by
  by_cases e : q = p
  · subst e
    rw [World.cell?_setCell_same W q u hq]
    rw [hq] at h
    exact h
  · rw [World.cell?_setCell_other W q p u e]
    exact h
theorem size_set (W : World) (p : Addr) (v : Value) : (W.setCell p v).heap.size = W.heap.size := by simp [World.setCell]
/-- Numbers are not where slices are. -/
theorem rdI_set {W : World} {q : Addr} {A : Option Addr} {xs : List Int} {a : Option Addr} {l c : Nat} (hq : W.cell? q = some (.slice a l c)) (v : Value) (h : Rd 1 encI W A xs) : Rd 1 encI (W.setCell q v) A xs := by
  intro hn
  obtain ⟨b, off, hA, hlt, hc⟩ := h hn
  refine ⟨b, off, hA, by rw [size_set]; exact hlt, fun k x hx j y hy => ?_⟩
  have h1 := hc k x hx j y hy
  rw [World.cell?_setCell_other]
  · exact h1
  · intro e
    rw [← e, hq] at h1
    rcases j with _ | j
    · simp [encI] at hy
      subst hy
      cases h1
    · simp [encI] at hy
theorem wrap_fitA {x : Int} (h0 : -9223372036854775808 ≤ x) (h1 : x ≤ 9223372036854775807) : IntKind.i64.wrap x = x := by
  unfold IntKind.wrap
  simp [IntKind.signed, IntKind.bits]
  omega
theorem results_cA {P : Program} {fn : Func} {a : Tmp} {ty : TypeId} {tmps : Array Value} {b : Nat} {u : Value} {w : World} (h : fn.results = #[.cell a ty]) (ha : tmps.getD a undef = .pointer (some ⟨b, 0, none⟩)) (hl : (loadVar ty ⟨b, 0, none⟩).run P w = .ok u w) :
    (results fn tmps).run P w = .ok u w := by
  have ha' : tmps[a]?.getD undef = .pointer (some ⟨b, 0, none⟩) := by simpa using ha
  simp [results, h, ha', hl, asAddr]
theorem load_job {W : World} {b : Nat} {f : Nat → Value} (h : Own W b 25 5 f) : (loadVar 25 ⟨b, 0, none⟩).run Try.prog W = .ok (.agg #[f 0, f 1, f 2, f 3, f 4]) W := by
  have c0 := h.cell (i := 0) (by omega)
  have c1 := h.cell (i := 1) (by omega)
  have c2 := h.cell (i := 2) (by omega)
  have c3 := h.cell (i := 3) (by omega)
  have c4 := h.cell (i := 4) (by omega)
  go_simp
theorem ret_job2 {a b a' b' : Int} {x y z : Value} (h0 : a = a') (h1 : b = b') : Ending.returned (.agg #[.int .i64 a, .int .i64 b, x, y, z]) = .returned (.agg #[.int .i64 a', .int .i64 b', x, y, z]) := by rw [h0, h1]
end Go.Proofs.Ytgfcnkfmgpakkaa
