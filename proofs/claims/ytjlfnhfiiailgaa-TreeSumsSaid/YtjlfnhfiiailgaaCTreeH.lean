/-
tree.Below.
-/
import Derived.Test.YtjlfnhfiiailgaaCTreeG
import Derived.Test.YtjlfnhfiiailgaaGBase
namespace Go.Proofs.Ytjlfnhfiiailgaa
open Go.RowKit
set_option linter.unusedVariables false
set_option linter.unusedSimpArgs false
noncomputable def okCo (s : GSite) (co : Int) : Bool := okSB keyL s && decide (0 ≤ co ∧ co < s.cons.length)
def isBel (s : GSite) (co : Int) (i : Nat) : Bool := decide (co ∈ pthI s.cons (placeOf s i))
def belowL (s : GSite) (co : Int) (m : Nat) : List Int := ((List.range m).filter (isBel s co)).map (fun (i : Nat) => (i : Int))
noncomputable def belowO (s : GSite) (co : Int) : List Int := if okCo s co = true then belowL s co s.chgs.length else []
theorem okCo_no1 {s : GSite} {ch : Int} (h : okSB keyL s = false) : okCo s ch = false := by unfold okCo; rw [h]; rfl
theorem okCo_no2 {s : GSite} {ch : Int} (h : ¬ (0 ≤ ch ∧ ch < s.cons.length)) : okCo s ch = false := by unfold okCo; rw [decide_eq_false h, Bool.and_false]
theorem okCo_yes {s : GSite} {ch : Int} (h : okSB keyL s = true) (h2 : 0 ≤ ch ∧ ch < s.cons.length) : okCo s ch = true := by unfold okCo; rw [h, decide_eq_true h2]; rfl
theorem belowO_no {s : GSite} {ch : Int} (h : okCo s ch = false) : belowO s ch = [] := by unfold belowO; rw [h]; rfl
theorem belowO_yes {s : GSite} {ch : Int} (h : okCo s ch = true) : belowO s ch = belowL s ch s.chgs.length := by unfold belowO; rw [if_pos h]
theorem belowL_zero (s : GSite) (co : Int) : belowL s co 0 = [] := rfl
theorem belowL_no {s : GSite} {co : Int} {m : Nat} (h : isBel s co m = false) : belowL s co (m + 1) = belowL s co m := by
  unfold belowL
  rw [List.range_succ, List.filter_append, List.map_append, List.filter_cons_of_neg (by rw [h]; simp)]
  simp
theorem belowL_yes {s : GSite} {co : Int} {m : Nat} (h : isBel s co m = true) : belowL s co (m + 1) = belowL s co m ++ [(m : Int)] := by
  unfold belowL
  rw [List.range_succ, List.filter_append, List.map_append, List.filter_cons_of_pos h]
  simp
theorem belowL_len (s : GSite) (co : Int) (m : Nat) : (belowL s co m).length ≤ m := by
  unfold belowL
  rw [List.length_map]
  exact Nat.le_trans (List.length_filter_le _ _) (by simp)
set_option maxRecDepth 100000 in
set_option maxHeartbeats 4000000 in
theorem trBelow1_any (bs bc : Nat) (a1 a2 a3 a4 a5 : Option Addr) (n1 c1 n2 c2 n3 c3 n4 c4 n5 c5 : Nat) (cs : List GCon) (hu : OkUps cs) (c0 : Nat) (hc : c0 < cs.length) (hn1 : cs.length = n1) (hm1 : n1 ≤ 16) (nm : ByteArray) (ph mn mx st fb ow co : Int) (w : World)
    (k0 : w.cell? ⟨bs, 0, none⟩ = some (.slice a1 n1 c1)) (k1 : w.cell? ⟨bs, 1, none⟩ = some (.slice a2 n2 c2)) (k2 : w.cell? ⟨bs, 2, none⟩ = some (.slice a3 n3 c3)) (k3 : w.cell? ⟨bs, 3, none⟩ = some (.slice a4 n4 c4)) (k4 : w.cell? ⟨bs, 4, none⟩ = some (.slice a5 n5 c5))
    (kc : w.cell? ⟨bc, 0, none⟩ = some (.int .i64 co)) (hR : Rd 11 encCon w a1 cs) (hA : ∀ a, a1 = some a → a.block < w.heap.size) :
    Calls Try.prog 34 #[.agg #[.string nm, .int .i64 (c0 : Nat), .int .i64 ph, .int .i64 mn, .int .i64 mx, .int .i64 st, .int .i64 fb, .int .i64 ow], .pointer (some ⟨bs, 0, none⟩), .pointer (some ⟨bc, 0, none⟩)] w fun e w' => e = .returned (.bool (decide (co ∈ pthI cs c0))) ∧ Below w.heap.size w w' := by
  have ls := World.block_lt_of_cell? w _ k0
  have lc := World.block_lt_of_cell? w _ kc
  dsimp only at ls lc
  go_enter Try.func34, Try.ntmps34
  go_wp2_with fail
  obtain ⟨W, hW⟩ : ∃ W, W = w.alloc (.cells #[.string nm, .int .i64 (c0 : Nat), .int .i64 ph, .int .i64 mn, .int .i64 mx, .int .i64 st, .int .i64 fb, .int .i64 ow] 42) := ⟨_, rfl⟩
  have bw : Below w.heap.size w W := by rw [hW]; exact (Below.refl _ w).alloc (Nat.le_refl _) _
  have x1 : W.cell? ⟨w.heap.size, 1, none⟩ = some (.int .i64 (c0 : Nat)) := by rw [hW]; go_simp
  have lx : w.heap.size < W.heap.size := by rw [hW]; simp
  rw [← hW]
  clear hW
  have q0 := (bw.cell (p := ⟨bs, 0, none⟩) ls).trans k0
  have q1 := (bw.cell (p := ⟨bs, 1, none⟩) ls).trans k1
  have q2 := (bw.cell (p := ⟨bs, 2, none⟩) ls).trans k2
  have q3 := (bw.cell (p := ⟨bs, 3, none⟩) ls).trans k3
  have q4 := (bw.cell (p := ⟨bs, 4, none⟩) ls).trans k4
  have qc := (bw.cell (p := ⟨bc, 0, none⟩) lc).trans kc
  have HR := Lib.hid (hR.keep bw)
  have HB := Lib.hid bw
  have lsW : bs < W.heap.size := by omega
  have lcW : bc < W.heap.size := by omega
  clear k0 k1 k2 k3 k4 kc hR bw
  refine region_z (S := fun w' => Below W.heap.size W w') [] (by kernel_rfl) (Below.refl _ _).drew (fun hHeld => ?_)
  refine wpAnyZ_take (i := 0) (v := .agg #[.slice a1 n1 c1, .slice a2 n2 c2, .slice a3 n3 c3, .slice a4 n4 c4, .slice a5 n5 c5]) [] rfl (by kernel_rfl) (by kernel_rfl) (by kernel_rfl) (by kernel_rfl) (fun _ _ _ h => h) (Or.inl ⟨by kernel_rfl, fun w' hSw => ?_⟩) hHeld ?_
  · have s0 := (hSw.cell (p := ⟨bs, 0, none⟩) lsW).trans q0
    have s1 := (hSw.cell (p := ⟨bs, 1, none⟩) lsW).trans q1
    have s2 := (hSw.cell (p := ⟨bs, 2, none⟩) lsW).trans q2
    have s3 := (hSw.cell (p := ⟨bs, 3, none⟩) lsW).trans q3
    have s4 := (hSw.cell (p := ⟨bs, 4, none⟩) lsW).trans q4
    clear hHeld hSw q0 q1 q2 q3 q4
    go_simp
  simp only [Act.put, List.getElem_toArray, List.getElem_cons_zero, List.getElem_cons_succ, List.setIfInBounds_toArray, List.set_cons_zero, List.set_cons_succ]
  refine wpAnyZ_take (i := 1) (v := .pointer (some ⟨w.heap.size, 1, none⟩)) [] rfl (by kernel_rfl) (by kernel_rfl) (by kernel_rfl) (by kernel_rfl) (fun _ _ _ h => h) (Or.inl ⟨by kernel_rfl, fun w' hSw => ?_⟩) hHeld ?_
  · clear hHeld hSw
    go_simp
  simp only [Act.put, List.getElem_toArray, List.getElem_cons_zero, List.getElem_cons_succ, List.setIfInBounds_toArray, List.set_cons_zero, List.set_cons_succ]
  refine wpAnyZ_take (i := 2) (v := .int .i64 (c0 : Nat)) [] rfl (by kernel_rfl) (by kernel_rfl) (by kernel_rfl) (by kernel_rfl) (fun _ _ _ h => h) (Or.inl ⟨by kernel_rfl, fun w' hSw => ?_⟩) hHeld ?_
  · have s0 := (hSw.cell (p := ⟨w.heap.size, 1, none⟩) lx).trans x1
    clear hHeld hSw
    go_simp
  simp only [Act.put, List.getElem_toArray, List.getElem_cons_zero, List.getElem_cons_succ, List.setIfInBounds_toArray, List.set_cons_zero, List.set_cons_succ]
  refine wpAnyZ_take (i := 4) (v := .int .i64 co) [] rfl (by kernel_rfl) (by kernel_rfl) (by kernel_rfl) (by kernel_rfl) (fun _ _ _ h => h) (Or.inl ⟨by kernel_rfl, fun w' hSw => ?_⟩) hHeld ?_
  · have s0 := (hSw.cell (p := ⟨bc, 0, none⟩) lcW).trans qc
    clear hHeld hSw
    go_simp
  simp only [Act.put, List.getElem_toArray, List.getElem_cons_zero, List.getElem_cons_succ, List.setIfInBounds_toArray, List.set_cons_zero, List.set_cons_succ]
  clear q0 q1 q2 q3 q4 qc
  refine wpAnyZ_one (i := 3) (by kernel_rfl) rfl (fun K' hK => ?_)
  go_simp
  refine (trWay_any a1 a2 a3 a4 a5 n1 c1 n2 c2 n3 c3 n4 c4 n5 c5 ((c0 : Nat) : Int) W.drew).mono ?_
  rintro e w2 ⟨rfl, hw2⟩
  have hb2 : Below W.heap.size W w2 := by rw [hw2]; exact (((Below.refl _ W).drew).alloc (by simp) _).alloc (by simp) _
  have z0 : w2.cell? ⟨W.heap.size + 1, 0, none⟩ = some (.int .i64 (c0 : Nat)) := by rw [hw2]; go_simp
  have z1 : w2.cell? ⟨W.heap.size, 0, none⟩ = some (.slice a1 n1 c1) := by rw [hw2]; go_simp
  have HH := Lib.hid (trHas_any (W.heap.size + 1) W.heap.size cs hu c0 hc a1 n1 c1 hn1 hm1 co w2 z0 z1 (HR.out.keep hb2) (fun a ha => by have := hA a ha; have := hb2.size; omega))
  have HB2 := Lib.hid hb2
  clear hw2 z0 z1 hb2
  refine hK.out _ _ ?_ (fun hHeld' => ?_)
  · exact HB2.out
  clear hK K' hHeld
  refine wpAnyZ_one (i := 5) (by kernel_rfl) rfl (fun K' hK => ?_)
  go_simp
  refine HH.out.mono ?_
  rintro e w3 ⟨rfl, hb3⟩
  have hb4 := below_then hHeld' hb3
  refine hK.out _ _ ?_ (fun hHeld => ?_)
  · exact hb4
  clear hK K' hHeld' hb3 hb4
  refine wpAnyZ_take (i := 6) (v := .bool (decide (co ∈ pthI cs c0))) [] rfl (by kernel_rfl) (by kernel_rfl) (by kernel_rfl) (by kernel_rfl) (fun _ _ _ h => h) (Or.inl ⟨by kernel_rfl, fun w' hSw => ?_⟩) hHeld ?_
  · clear hHeld hSw
    go_simp
  simp only [Act.put, List.getElem_toArray, List.getElem_cons_zero, List.getElem_cons_succ, List.setIfInBounds_toArray, List.set_cons_zero, List.set_cons_succ]
  refine wpAnyZ_done (by kernel_rfl) ?_ _
  have HB4 := Lib.hid (below_then HB.out hHeld)
  go_wp2_with fail
  go_ret
  exact ⟨rfl, HB4.out⟩
end Go.Proofs.Ytjlfnhfiiailgaa
