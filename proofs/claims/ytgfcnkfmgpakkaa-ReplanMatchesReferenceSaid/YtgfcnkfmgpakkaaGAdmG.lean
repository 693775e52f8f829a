/-
Several texts in one: AdmG, AdmH, AdmI.
-/
import Derived.Test.YtgfcnkfmgpakkaaGAdmE
/-
The closures of admit.Advance, walked.
-/
namespace Go.Proofs.Ytgfcnkfmgpakkaa
open Go.RowKit
set_option linter.unusedVariables false
set_option linter.unusedSimpArgs false
theorem aAdv2_any (i n : Int) (w : World) : Calls Try.prog 65 #[.int .i64 i, .int .i64 n] w fun e w' => e = .returned (.int .i64 n) ∧ w' = w := by
  go_enter Try.func65, Try.ntmps65
  go_wp2
  go_ret
  exact ⟨rfl, rfl⟩
set_option maxRecDepth 100000 in
set_option maxHeartbeats 4000000 in
theorem aAdv1_any (i bd M c3 : Nat) (j : GJob) (A3 : Option Addr) (done : List Int) (w : World) (hR3 : Rd 1 encI w A3 done) (HN3 : Hid (done.length = M)) (hi : i < M) (hM : M ≤ 1000) (hcd : w.cell? ⟨bd, 0, none⟩ = some (.slice A3 M c3))
    (f0 : 0 ≤ j.frm) (f1 : j.frm ≤ 1000) (g0 : 0 ≤ j.till) (g1 : j.till ≤ 1000) (e0 : 0 ≤ j.energy) (e1 : j.energy ≤ 1000) (d0 : 0 ≤ fAt done i) (d1 : fAt done i ≤ 1000) :
    Calls Try.prog 64 #[.int .i64 i, .agg #[.int .i64 j.frm, .int .i64 j.till, .int .i64 j.energy, .int .i64 j.rate, .int .i64 j.rank], .pointer (some ⟨bd, 0, none⟩)] w fun e w' => e = .returned (.agg #[.int .i64 (max 0 (j.frm - 1)), .int .i64 (max 0 (j.till - 1)), .int .i64 (j.energy - fAt done i), .int .i64 j.rate, .int .i64 j.rank]) ∧ Below w.heap.size w w' := by
  obtain ⟨W, hW⟩ : ∃ W, W = (w.alloc (.cells #[.int .i64 j.frm, .int .i64 j.till, .int .i64 j.energy, .int .i64 j.rate, .int .i64 j.rank] 25)).alloc (.cells #[.int .i64 0, .int .i64 0, .int .i64 0, .int .i64 0, .int .i64 0] 25) := ⟨_, rfl⟩
  have a1 : Below w.heap.size w (w.alloc (.cells #[.int .i64 j.frm, .int .i64 j.till, .int .i64 j.energy, .int .i64 j.rate, .int .i64 j.rank] 25)) := (Below.refl _ w).alloc (Nat.le_refl _) _
  have a2 : Below (w.alloc (.cells #[.int .i64 j.frm, .int .i64 j.till, .int .i64 j.energy, .int .i64 j.rate, .int .i64 j.rank] 25)).heap.size (w.alloc (.cells #[.int .i64 j.frm, .int .i64 j.till, .int .i64 j.energy, .int .i64 j.rate, .int .i64 j.rank] 25)) W := by rw [hW]; exact (Below.refl _ _).alloc (Nat.le_refl _) _
  have a0 := below_then a1 a2
  have o1 : Own (w.alloc (.cells #[.int .i64 j.frm, .int .i64 j.till, .int .i64 j.energy, .int .i64 j.rate, .int .i64 j.rank] 25)) w.heap.size 25 5 (jobF j) := jobNew w j
  have o1' := o1.keep a2 o1.lt
  have o2 : Own W (w.heap.size + 1) 25 5 (fun _ => .int .i64 0) := by
    rw [hW]
    have o := Own.new (w.alloc (.cells #[.int .i64 j.frm, .int .i64 j.till, .int .i64 j.energy, .int .i64 j.rate, .int .i64 j.rank] 25)) 25 #[.int .i64 0, .int .i64 0, .int .i64 0, .int .i64 0, .int .i64 0] undef
    rw [World.size_alloc] at o
    refine o.congr (fun i hi => ?_)
    have hi' : i < 5 := hi
    rcases i with _ | _ | _ | _ | _ | i
    all_goals first | rfl | omega
  obtain ⟨b3, o3, rfl, l3w, hc3w⟩ := hR3.int (k := i) (by rw [HN3.out]; exact hi)
  have hc3 : W.cell? ⟨b3, o3 + i, none⟩ = some (.int .i64 (fAt done i)) := (a0.cell (p := ⟨b3, o3 + i, none⟩) l3w).trans hc3w
  have ldw : bd < w.heap.size := World.block_lt_of_cell? w _ hcd
  have hcd := (a0.cell (p := ⟨bd, 0, none⟩) ldw).trans hcd
  obtain ⟨d, hd⟩ : ∃ d, d = fAt done i := ⟨_, rfl⟩
  rw [← hd] at hc3 d0 d1 ⊢
  clear hd hc3w hR3
  have l3 : b3 < W.heap.size := Nat.lt_of_lt_of_le l3w a0.size
  have ld : bd < W.heap.size := Nat.lt_of_lt_of_le ldw a0.size
  have lx : w.heap.size < W.heap.size := o1'.lt
  have k2 : W.cell? ⟨w.heap.size, 2, none⟩ = some (.int .i64 j.energy) := o1'.cell (i := 2) (by omega)
  have kf2 := o1'.frozen 2
  have HO1 := Lib.hid o1'
  have HO2 := Lib.hid o2
  have HA0 := Lib.hid a0
  have HW := Lib.hid hW.symm
  have hiz : (i : Int) < (M : Int) := by omega
  clear hW o1 o1' o2 a0 a1 a2
  go_enter Try.func64, Try.ntmps64
  go_upto_region 1 with (fail)
  rw [HW.out]
  refine region_z (S := fun w' => Below W.heap.size W w') [8] (by kernel_rfl) (Below.refl _ _).drew (fun hHeld => ?_)
  refine wpAnyZ_take (i := 0) (v := .pointer (some ⟨w.heap.size, 2, none⟩)) [8] rfl (by kernel_rfl) (by kernel_rfl) (by kernel_rfl) (by kernel_rfl) (fun _ _ _ h => h) (Or.inl ⟨by rfl, fun w' hSw => ?_⟩) hHeld ?_
  · clear hHeld
    go_simp
  simp only [Act.put, List.setIfInBounds_toArray, List.set_cons_zero, List.set_cons_succ]
  refine wpAnyZ_take (i := 1) (v := .int .i64 j.energy) [8] rfl (by kernel_rfl) (by kernel_rfl) (by kernel_rfl) (by kernel_rfl) (fun _ _ _ h => h) (Or.inl ⟨by rfl, fun w' hSw => ?_⟩) hHeld ?_
  · clear hHeld
    have s0 := (hSw.cell (p := ⟨w.heap.size, 2, none⟩) lx).trans k2
    go_simp
  simp only [Act.put, List.setIfInBounds_toArray, List.set_cons_zero, List.set_cons_succ]
  refine wpAnyZ_take (i := 2) (v := .slice (some ⟨b3, o3, none⟩) M c3) [8] rfl (by kernel_rfl) (by kernel_rfl) (by kernel_rfl) (by kernel_rfl) (fun _ _ _ h => h) (Or.inl ⟨by rfl, fun w' hSw => ?_⟩) hHeld ?_
  · clear hHeld
    have s0 := (hSw.cell (p := ⟨bd, 0, none⟩) ld).trans hcd
    go_simp
  simp only [Act.put, List.setIfInBounds_toArray, List.set_cons_zero, List.set_cons_succ]
  refine wpAnyZ_take (i := 3) (v := .int .i64 i) [8] rfl (by kernel_rfl) (by kernel_rfl) (by kernel_rfl) (by kernel_rfl) (fun _ _ _ h => h) (Or.inl ⟨by rfl, fun w' hSw => ?_⟩) hHeld ?_
  · clear hHeld
    go_simp
  simp only [Act.put, List.setIfInBounds_toArray, List.set_cons_zero, List.set_cons_succ]
  refine wpAnyZ_take (i := 4) (v := .pointer (some ⟨b3, o3 + i, none⟩)) [8] rfl (by kernel_rfl) (by kernel_rfl) (by kernel_rfl) (by kernel_rfl) (fun _ _ _ h => h) (Or.inl ⟨by rfl, fun w' hSw => ?_⟩) hHeld ?_
  · clear hHeld
    go_simp
  simp only [Act.put, List.setIfInBounds_toArray, List.set_cons_zero, List.set_cons_succ]
  refine wpAnyZ_take (i := 5) (v := .int .i64 d) [8] rfl (by kernel_rfl) (by kernel_rfl) (by kernel_rfl) (by kernel_rfl) (fun _ _ _ h => h) (Or.inl ⟨by rfl, fun w' hSw => ?_⟩) hHeld ?_
  · clear hHeld
    have s0 := (hSw.cell (p := ⟨b3, o3 + i, none⟩) l3).trans hc3
    go_simp
  simp only [Act.put, List.setIfInBounds_toArray, List.set_cons_zero, List.set_cons_succ]
  refine wpAnyZ_take (i := 6) (v := .int .i64 (j.energy - d)) [8] rfl (by kernel_rfl) (by kernel_rfl) (by kernel_rfl) (by kernel_rfl) (fun _ _ _ h => h) (Or.inl ⟨by rfl, fun w' hSw => ?_⟩) hHeld ?_
  · clear hHeld
    go_simp
    exact wrap_fitA (by omega) (by omega)
  simp only [Act.put, List.setIfInBounds_toArray, List.set_cons_zero, List.set_cons_succ]
  refine wpAnyZ_take (i := 7) (v := .pointer (some ⟨w.heap.size, 2, none⟩)) [8] rfl (by kernel_rfl) (by kernel_rfl) (by kernel_rfl) (by kernel_rfl) (fun _ _ _ h => h) (Or.inl ⟨by rfl, fun w' hSw => ?_⟩) hHeld ?_
  · clear hHeld
    go_simp
  simp only [Act.put, List.setIfInBounds_toArray, List.set_cons_zero, List.set_cons_succ]
  clear hHeld
  refine wpAnyZ_last (i := 8) (by kernel_rfl) rfl (by kernel_rfl) (fun K' hK => ?_)
  go_simp
  refine hK.out _ _ ?_
  clear hK K'
  try simp only [Act.put, List.setIfInBounds_toArray, List.set_cons_zero, List.set_cons_succ]
  refine wpAnyZ_done (by kernel_rfl) ?_ _
  go_step
  go_upto_region 2 with (fail)
  have oX : Own (W.setCell ⟨w.heap.size, 2, none⟩ (.int .i64 (j.energy - d))).drew w.heap.size 25 5 (jobF (withE j (j.energy - d))) := (HO1.out.set 2 _).congr (fun i hi => by
    unfold jobF withE
    dsimp only
    by_cases h2 : i = 2
    · subst h2; simp
    · simp [h2])
  have oY : Own (W.setCell ⟨w.heap.size, 2, none⟩ (.int .i64 (j.energy - d))).drew (w.heap.size + 1) 25 5 (fun _ => .int .i64 0) := HO2.out.other (p := ⟨w.heap.size, 2, none⟩) (by dsimp only; omega) _
  have bX : Below w.heap.size w (W.setCell ⟨w.heap.size, 2, none⟩ (.int .i64 (j.energy - d))).drew := (HA0.out.setCell (p := ⟨w.heap.size, 2, none⟩) (Nat.le_refl _) _).drew
  refine wp_world (fun X => Own X w.heap.size 25 5 (jobF (withE j (j.energy - d))) ∧ Own X (w.heap.size + 1) 25 5 (fun _ => .int .i64 0) ∧ Below w.heap.size w X) ⟨oX, oY, bX⟩ ?_
  clear k2 kf2 hcd hc3 oX oY bX HW HA0
  rintro X ⟨oX, oY, bX⟩
  have c0 : X.cell? ⟨w.heap.size, 0, none⟩ = some (.int .i64 j.frm) := oX.cell (i := 0) (by omega)
  have c1 : X.cell? ⟨w.heap.size, 1, none⟩ = some (.int .i64 j.till) := oX.cell (i := 1) (by omega)
  have c2 : X.cell? ⟨w.heap.size, 2, none⟩ = some (.int .i64 (j.energy - d)) := oX.cell (i := 2) (by omega)
  have c3 : X.cell? ⟨w.heap.size, 3, none⟩ = some (.int .i64 j.rate) := oX.cell (i := 3) (by omega)
  have c4 : X.cell? ⟨w.heap.size, 4, none⟩ = some (.int .i64 j.rank) := oX.cell (i := 4) (by omega)
  have r0 := oX.frozen 0
  have r1 := oX.frozen 1
  have p0 := oY.cell (i := 0) (by omega)
  have p1 := oY.cell (i := 1) (by omega)
  have p2 := oY.cell (i := 2) (by omega)
  have p3 := oY.cell (i := 3) (by omega)
  have p4 := oY.cell (i := 4) (by omega)
  have s0 := oY.frozen 0
  have s1 := oY.frozen 1
  have s2 := oY.frozen 2
  have s3 := oY.frozen 3
  have s4 := oY.frozen 4
  have HOF : Hid (∀ a b : Int, Own (((((((X.setCell ⟨w.heap.size, 0, none⟩ (.int .i64 a)).setCell ⟨w.heap.size, 1, none⟩ (.int .i64 b)).setCell ⟨w.heap.size + 1, 0, none⟩ (.int .i64 a)).setCell ⟨w.heap.size + 1, 1, none⟩ (.int .i64 b)).setCell ⟨w.heap.size + 1, 2, none⟩ (.int .i64 (j.energy - d))).setCell ⟨w.heap.size + 1, 3, none⟩ (.int .i64 j.rate)).setCell ⟨w.heap.size + 1, 4, none⟩ (.int .i64 j.rank)) (w.heap.size + 1) 25 5 (jobF ⟨a, b, j.energy - d, j.rate, j.rank⟩)) := Lib.hid (fun a b => by
    refine ((((((oY.other (p := ⟨w.heap.size, 0, none⟩) (by dsimp only; omega) (.int .i64 a)).other (p := ⟨w.heap.size, 1, none⟩) (by dsimp only; omega) (.int .i64 b)).set 0 (.int .i64 a)).set 1 (.int .i64 b)).set 2 (.int .i64 (j.energy - d))).set 3 (.int .i64 j.rate)).set 4 (.int .i64 j.rank) |>.congr (fun i hi => ?_)
    rcases i with _ | _ | _ | _ | _ | i
    all_goals first | rfl | omega)
  have HBF : Hid (∀ a b : Int, Below w.heap.size w (((((((X.setCell ⟨w.heap.size, 0, none⟩ (.int .i64 a)).setCell ⟨w.heap.size, 1, none⟩ (.int .i64 b)).setCell ⟨w.heap.size + 1, 0, none⟩ (.int .i64 a)).setCell ⟨w.heap.size + 1, 1, none⟩ (.int .i64 b)).setCell ⟨w.heap.size + 1, 2, none⟩ (.int .i64 (j.energy - d))).setCell ⟨w.heap.size + 1, 3, none⟩ (.int .i64 j.rate)).setCell ⟨w.heap.size + 1, 4, none⟩ (.int .i64 j.rank))) := Lib.hid (fun a b =>
    ((((((bX.setCell (p := ⟨w.heap.size, 0, none⟩) (by dsimp only; omega) _).setCell (p := ⟨w.heap.size, 1, none⟩) (by dsimp only; omega) _).setCell (p := ⟨w.heap.size + 1, 0, none⟩) (by dsimp only; omega) _).setCell (p := ⟨w.heap.size + 1, 1, none⟩) (by dsimp only; omega) _).setCell (p := ⟨w.heap.size + 1, 2, none⟩) (by dsimp only; omega) _).setCell (p := ⟨w.heap.size + 1, 3, none⟩) (by dsimp only; omega) _).setCell (p := ⟨w.heap.size + 1, 4, none⟩) (by dsimp only; omega) _)
  clear oX oY HO1 HO2 bX
  go_wp2_with fail
  all_goals
    refine bodyPost_ret (results_cA (a := 5) (by rfl) rfl (load_job (HOF.out _ _))) rfl ?_
    exact ⟨ret_job2 (by dsimp only; omega) (by dsimp only; omega), HBF.out _ _⟩
end Go.Proofs.Ytgfcnkfmgpakkaa
/-
admit.mapped at both pairs of types, walked.
-/
namespace Go.Proofs.Ytgfcnkfmgpakkaa
open Go.RowKit
set_option linter.unusedVariables false
set_option linter.unusedSimpArgs false
theorem mk_roomI (n : Nat) (hb : n * 8 ≤ 140737488355328) : ∃ mc : Array Value, (∀ W : World, (Instr.makeSlice 23 (.int .i64 0) (.int .i64 n)).run Try.prog W = .ok (.slice (some ⟨W.heap.size, 0, none⟩) 0 n) (W.alloc (.cells mc 3))) ∧
    ∀ (W : World) (base : Nat), base ≤ W.heap.size → OwnN (W.alloc (.cells mc 3)) base (.slice (some ⟨W.heap.size, 0, none⟩) 0 n) [] :=
  ⟨_, fun W => mk_noneR (P := Try.prog) 23 3 _ 1 8 Try.underlying23 appInfoNum n (by omega) (by omega) W, fun W base hW => OwnR.made W _ n (by unfold maxLen; omega) (size_madeCells _ _) hW⟩
/-- An own list as a slice: its capacity is at least its length. -/
theorem OwnR.rdC {α : Type} {t : TypeId} {sz : Nat} {enc : α → List Value} {w : World} {base : Nat} {v : Value} {xs : List α} (hsz : ∀ x, (enc x).length = sz) (h : OwnR t sz enc w base v xs) : ∃ a c, v = .slice a xs.length c ∧ xs.length ≤ c ∧ Rd sz enc w a xs := by
  obtain ⟨a, c, e, r⟩ := h.rd hsz
  refine ⟨a, c, e, ?_, r⟩
  rcases h.2 with ⟨h1, h2⟩ | ⟨g, cap, cur, hv, _, _, hl, _⟩
  · rw [h2]; exact Nat.zero_le _
  · rw [e] at hv
    injection hv with _ _ e3
    rw [e3]; exact hl
set_option maxRecDepth 100000 in
set_option maxHeartbeats 4000000 in
theorem aMapJ_any (A A3 : Option Addr) (c N c3 bd : Nat) (js : List GJob) (sup done : List Int) (w : World) (hR : Rd 5 encJ w A js) (HN : Hid (js.length = N)) (hok : okP js sup = true) (hR3 : Rd 1 encI w A3 done) (HN3 : Hid (done.length = N)) (hd : okDTo js done N) (hcd : w.cell? ⟨bd, 0, none⟩ = some (.slice A3 N c3)) :
    Calls Try.prog 63 #[.slice A N c, .func (.func 64) #[] #[.pointer (some ⟨bd, 0, none⟩)]] w fun e w' => ∃ a d, e = .returned (.slice a N d) ∧ Rd 5 encJ w' a (nextJs js done) ∧ Below w.heap.size w w' := by
  obtain ⟨⟨t1, t2⟩, _, _⟩ := okP_iff.1 hok
  rw [HN.out] at t1
  obtain ⟨mc, hmk, hown⟩ := mk_roomJ N (by omega)
  have HO := Lib.hid (hown w w.heap.size (Nat.le_refl _))
  have HB0 : Hid (Below w.heap.size w (w.alloc (.cells mc 25))) := Lib.hid ((Below.refl _ w).alloc (Nat.le_refl _) _)
  have HR := Lib.hid hR
  have HR3 := Lib.hid hR3
  have HOK := Lib.hid hok
  have HD := Lib.hid hd
  have HCD := Lib.hid hcd
  have lbd : bd < w.heap.size := World.block_lt_of_cell? w _ hcd
  clear hR hR3 hok hd hcd hown
  go_enter Try.func63, Try.ntmps63
  go_wp2
  go_loopg [5, 6, 7, 13] N (fun g1 v5 v6 v7 v13 wr => ∃ (k : Nat), v13 = .int .i64 k ∧ k ≤ N ∧ N - k ≤ g1 ∧ Hid (OwnJ wr w.heap.size v5 (mk k (fun i => nextJ (jAt js i) (fAt done i)))) ∧ Hid (Below w.heap.size w wr))
  case atStart => exact ⟨0, by go_num, by omega, by omega, HO, HB0⟩
  case round =>
    obtain ⟨k, rfl, hk, hg1, HX, HB⟩ := hrel
    by_cases hlt : k < N
    · have hltz : (k : Int) < (N : Int) := by omega
      obtain ⟨bj, oj, j, rfl, hbj, hj, c0, c1, c2', c3', c4⟩ := rdJ_at (HR.out.keep HB.out) (k := k) (by rw [HN.out]; exact hlt)
      have hjk : jAt js k = j := by simp [jAt, hj]
      have hjb := okP_job HOK.out (i := k) (by rw [HN.out]; exact hlt)
      have hdk := HD.out k hlt
      rw [hjk] at hjb hdk
      have hq : nextJ (jAt js k) (fAt done k) = ⟨max 0 (j.frm - 1), max 0 (j.till - 1), j.energy - fAt done k, j.rate, j.rank⟩ := by rw [hjk]; rfl
      have hsn := mk_succ k (fun i => nextJ (jAt js i) (fAt done i))
      rw [hq] at hsn
      have a1 : Below wr.heap.size wr (wr.alloc (.cells #[.int .i64 j.frm, .int .i64 j.till, .int .i64 j.energy, .int .i64 j.rate, .int .i64 j.rank] 25)) := (Below.refl _ wr).alloc (Nat.le_refl _) _
      have b1 := below_then HB.out a1
      obtain ⟨p1, p2, p3, p4, p5, p6, p7, _, _⟩ := hjb
      unfold okD1 at hdk
      obtain ⟨d1, d2, d3, d4⟩ := hdk
      have hcall := aAdv1_any k bd N c3 j A3 done (wr.alloc (.cells #[.int .i64 j.frm, .int .i64 j.till, .int .i64 j.energy, .int .i64 j.rate, .int .i64 j.rank] 25)) (HR3.out.keep b1) HN3 hlt (by omega) ((b1.cell (p := ⟨bd, 0, none⟩) lbd).trans HCD.out) p1 (by omega) (by omega) (by omega) (by omega) (by omega) d1 (by omega)
      obtain ⟨d, hd⟩ : ∃ d, d = fAt done k := ⟨_, rfl⟩
      rw [← hd] at hcall hsn
      have HCall := Lib.hid hcall
      have Hd := Lib.hid hd
      have HXa := Lib.hid (HX.out.keepB a1)
      have HB1 := Lib.hid b1
      have HSN := Lib.hid hsn
      clear hcall hd hsn hq hjk hj a1 b1 p1 p2 p3 p4 p5 p6 p7 d1 d2 d3 d4
      go_wp2_with fail
      refine HCall.out.mono ?_
      rintro e w1 ⟨rfl, hb1⟩
      have b2 := below_then HB1.out hb1
      obtain ⟨ap, v', w2, av, aw, HO1, HA1⟩ := app_job (max 0 (j.frm - 1)) (max 0 (j.till - 1)) (j.energy - d) j.rate j.rank (HXa.out.keepB hb1) b2.size (by rw [mk_len]; omega)
      have HB2 : Hid (Below w.heap.size w w2) := Lib.hid (b2.trans HA1.out.bel)
      have HO2 : Hid (OwnJ w2 w.heap.size v' (mk (k + 1) (fun i => nextJ (jAt js i) (fAt done i)))) := Lib.hid (by rw [HSN.out]; exact HO1.out)
      clear b2 hb1 HO1 HA1 HXa HB1 HCall
      go_wp2
      go_roundg (N - (k + 1))
      case measure => omega
      case rel => exact ⟨k + 1, by go_num, by omega, by omega, HO2, HB2⟩
    · have hltz : ¬ (k : Int) < (N : Int) := by omega
      have hkN : k = N := by omega
      subst hkN
      obtain ⟨a1, d1, e1, r1⟩ := HX.out.rd encJ_len5
      rw [mk_len] at e1
      have HE1 := Lib.hid e1
      have HF : Hid (Rd 5 encJ wr a1 (nextJs js done)) := Lib.hid (by unfold nextJs; rw [HN.out]; exact r1)
      clear r1 e1
      go_wp2
      go_ret
      first | exact ⟨a1, d1, congrArg Ending.returned HE1.out, HF.out, HB.out⟩ | exact ⟨a1, ⟨d1, congrArg Ending.returned HE1.out⟩, HF.out, HB.out⟩
set_option maxRecDepth 100000 in
set_option maxHeartbeats 4000000 in
theorem aMapI_any (A : Option Addr) (c N : Nat) (xs : List Int) (w : World) (hR : Rd 1 encI w A xs) (HN : Hid (xs.length = N)) (hN : N ≤ 1000) :
    Calls Try.prog 66 #[.slice A N c, .func (.func 65) #[] #[]] w fun e w' => ∃ a d, e = .returned (.slice a N d) ∧ N ≤ d ∧ Rd 1 encI w' a xs ∧ Below w.heap.size w w' := by
  obtain ⟨mc, hmk, hown⟩ := mk_roomI N (by omega)
  have HO := Lib.hid (hown w w.heap.size (Nat.le_refl _))
  have HB0 : Hid (Below w.heap.size w (w.alloc (.cells mc 3))) := Lib.hid ((Below.refl _ w).alloc (Nat.le_refl _) _)
  have HR := Lib.hid hR
  clear hR hown
  go_enter Try.func66, Try.ntmps66
  go_wp2
  go_loopg [5, 6, 7, 13] N (fun g1 v5 v6 v7 v13 wr => ∃ (k : Nat), v13 = .int .i64 k ∧ k ≤ N ∧ N - k ≤ g1 ∧ Hid (OwnN wr w.heap.size v5 (xs.take k)) ∧ Hid (Below w.heap.size w wr))
  case atStart => exact ⟨0, by go_num, by omega, by omega, HO, HB0⟩
  case round =>
    obtain ⟨k, rfl, hk, hg1, HX, HB⟩ := hrel
    by_cases hlt : k < N
    · have hltz : (k : Int) < (N : Int) := by omega
      obtain ⟨b, off, x, rfl, hbl, hx, hc⟩ := (HR.out.keep HB.out).at_ (k := k) (by rw [HN.out]; exact hlt)
      have hc0 : wr.cell? ⟨b, off + k, none⟩ = some (.int .i64 x) := by have := hc 0 _ rfl; simpa using this
      have HSN := Lib.hid (take_snoc hx)
      clear hc hx
      go_wp2_with fail
      refine (aAdv2_any k x wr).mono ?_
      rintro e w1 ⟨rfl, rfl⟩
      obtain ⟨ap, v', w2, av, aw, HO1, HA1⟩ := app_num x HX.out HB.out.size (by rw [List.length_take]; omega)
      have HB2 : Hid (Below w.heap.size w w2) := Lib.hid (HB.out.trans HA1.out.bel)
      have HO2 : Hid (OwnN w2 w.heap.size v' (xs.take (k + 1))) := Lib.hid (by rw [HSN.out]; exact HO1.out)
      clear HO1 HA1 HX HB HSN
      go_wp2
      go_roundg (N - (k + 1))
      case measure => omega
      case rel => exact ⟨k + 1, by go_num, by omega, by omega, HO2, HB2⟩
    · have hltz : ¬ (k : Int) < (N : Int) := by omega
      obtain ⟨a1, d1, e1, q1, r1⟩ := HX.out.rdC encI_len1
      rw [List.take_of_length_le (by rw [HN.out]; omega)] at e1 q1 r1
      rw [HN.out] at e1 q1
      subst e1
      have HF := Lib.hid r1
      have HQ := Lib.hid q1
      clear r1 q1 HX
      go_wp2
      go_ret
      exact ⟨a1, d1, rfl, HQ.out, HF.out, HB.out⟩
end Go.Proofs.Ytgfcnkfmgpakkaa
/-
admit.Advance, walked.
-/
namespace Go.Proofs.Ytgfcnkfmgpakkaa
open Go.RowKit
set_option linter.unusedVariables false
set_option linter.unusedSimpArgs false
/-- What Advance says. -/
def AdvPost (w : World) (js : List GJob) (sup done : List Int) (N T : Nat) (e : Ending) (w' : World) : Prop :=
  Below w.heap.size w w' ∧
  ((okD js sup done = false ∧ e = .returned (.tuple #[.slice none 0 0, .slice none 0 0, .int .i64 1])) ∨
   (okD js sup done = true ∧ ∃ a d a2 d2, e = .returned (.tuple #[.slice a N d, .slice a2 (T - 1) d2, .int .i64 0]) ∧ T - 1 ≤ d2 ∧ Rd 5 encJ w' a (nextJs js done) ∧ Rd 1 encI w' a2 sup.tail))
theorem rd_tail1 {w : World} {b off : Nat} {sup : List Int} (h : Rd 1 encI w (some ⟨b, off, none⟩) sup) : Rd 1 encI w (some ⟨b, off + 1, none⟩) sup.tail := by
  intro hn
  rw [List.length_tail] at hn
  obtain ⟨b', off', e, hlt, hcell⟩ := h (by omega)
  injection e with e
  injection e with e1 e2
  subst e1 e2
  refine ⟨b, off + 1, rfl, hlt, fun k x hx j v hv => ?_⟩
  have hx' : sup[k + 1]? = some x := by
    rw [List.getElem?_tail] at hx
    exact hx
  have := hcell (k + 1) x hx' j v hv
  have e : off + (k + 1) * 1 + j = off + 1 + k * 1 + j := by omega
  rw [e] at this
  exact this
set_option maxRecDepth 100000 in
set_option maxHeartbeats 4000000 in
theorem aAdvance_any (A A2 A3 : Option Addr) (c N c2 T c3 M : Nat) (js : List GJob) (sup done : List Int) (w : World) (hR : Rd 5 encJ w A js) (HN : Hid (js.length = N)) (hl : N ≤ 9223372036854775807) (hR2 : Rd 1 encI w A2 sup) (HN2 : Hid (sup.length = T)) (hl2 : T ≤ 9223372036854775807)
    (hR3 : Rd 1 encI w A3 done) (HN3 : Hid (done.length = M)) (hl3 : M ≤ 9223372036854775807) (hcap : T ≤ c2) :
    Calls Try.prog 27 #[.slice A N c, .slice A2 T c2, .slice A3 M c3] w (AdvPost w js sup done N T) := by
  have a0 : Below w.heap.size w (w.alloc (.cells #[.slice A3 M c3] 23)) := (Below.refl _ w).alloc (Nat.le_refl _) _
  have hcd : (w.alloc (.cells #[.slice A3 M c3] 23)).cell? ⟨w.heap.size, 0, none⟩ = some (.slice A3 M c3) := by go_simp
  go_enter Try.func27, Try.ntmps27
  go_wp2_with fail
  refine (aDone_any A A2 A3 c N c2 T c3 M js sup done _ (hR.keep a0) HN hl (hR2.keep a0) HN2 hl2 (hR3.keep a0) HN3 hl3).mono ?_
  rintro e w1 ⟨rfl, hb1⟩
  have b1 := below_then a0 hb1
  have hcd1 := (hb1.cell (p := ⟨w.heap.size, 0, none⟩) (by simp)).trans hcd
  have lcd := World.block_lt_of_cell? w1 _ hcd1
  clear hb1 a0 hcd
  cases hok : okD js sup done
  · have HF := Lib.hid hok
    go_wp2_with fail
    go_ret3
    exact ⟨b1, .inl ⟨HF.out, rfl⟩⟩
  · obtain ⟨o1, o2, o3, o4, o5⟩ := okD_iff.1 hok
    obtain ⟨⟨t1, t2⟩, _, _⟩ := okP_iff.1 o1
    have hMN : M = N := by rw [← HN3.out, ← HN.out]; exact o3
    subst hMN
    rw [HN.out] at o4 t1
    rw [HN2.out] at o2 t2
    have hcall := aMapJ_any A A3 c M c3 w.heap.size js sup done w1 (hR.keep b1) HN o1 (hR3.keep b1) HN3 o4 hcd1
    have HCall := Lib.hid hcall
    have HF := Lib.hid hok
    have B1 := Lib.hid b1
    clear hcall hok o1 o3 o4 o5 b1
    go_wp2_with fail
    refine HCall.out.mono ?_
    rintro e w2 ⟨a, d, rfl, r1, hb2⟩
    have b2 := below_then B1.out hb2
    obtain ⟨b, off, rfl, lb, hcell⟩ := hR2.keep b2 (by rw [HN2.out]; omega)
    have HR1 := Lib.hid r1
    have HL : Hid (sup.tail.length = T - 1) := Lib.hid (by rw [List.length_tail, HN2.out])
    have B2 := Lib.hid b2
    have HR2' := Lib.hid (hR2.keep b2)
    have hT1z : (1 : Int) ≤ (T : Int) := by omega
    clear b2 hb2 r1 hcell HCall
    by_cases hc1 : c2 = 1
    · have hT1 : T = 1 := by omega
      subst hc1 hT1
      have hse : sup.tail = [] := List.eq_nil_of_length_eq_zero HL.out
      have HSE := Lib.hid hse
      clear hse
      go_wp2_with fail
      refine (aMapI_any _ _ 0 [] w2 Rd.nil (Lib.hid rfl) (by omega)).mono ?_
      rintro e w3 ⟨a2, d2, rfl, hq, r3, hb3⟩
      have b3 := below_then B2.out hb3
      have HR3' := Lib.hid (HR1.out.keep hb3)
      have HPost : Hid (∀ e, e = Ending.returned (.tuple #[.slice a M d, .slice a2 0 d2, .int .i64 0]) → AdvPost w js sup done M 1 e w3) := Lib.hid (fun e he => ⟨b3, .inr ⟨HF.out, a, d, a2, d2, he, by omega, HR3'.out, by rw [HSE.out]; exact r3⟩⟩)
      go_wp2_with fail
      go_ret3
      exact HPost.out _ rfl
    · have hc1z : ¬ c2 = 1 := hc1
      have hrt : Rd 1 encI w2 (some ⟨b, off + 1, none⟩) sup.tail := rd_tail1 HR2'.out
      go_wp2_with fail
      refine (aMapI_any _ _ _ sup.tail w2 hrt HL (by omega)).mono ?_
      rintro e w3 ⟨a2, d2, rfl, hq, r3, hb3⟩
      have b3 := below_then B2.out hb3
      have HR3' := Lib.hid (HR1.out.keep hb3)
      have HPost : Hid (∀ e, e = Ending.returned (.tuple #[.slice a M d, .slice a2 (T - 1) d2, .int .i64 0]) → AdvPost w js sup done M T e w3) := Lib.hid (fun e he => ⟨b3, .inr ⟨HF.out, a, d, a2, d2, he, hq, HR3'.out, r3⟩⟩)
      go_wp2_with fail
      go_ret3
      exact HPost.out _ rfl
end Go.Proofs.Ytgfcnkfmgpakkaa
