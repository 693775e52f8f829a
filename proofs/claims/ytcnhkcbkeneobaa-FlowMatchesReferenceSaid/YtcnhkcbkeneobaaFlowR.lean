/-
The first check of the laws, walked.
-/
import Derived.Test.YtcnhkcbkeneobaaFlowQ2
import Derived.Test.YtcnhkcbkeneobaaFlowHd
import Derived.Test.YtcnhkcbkeneobaaFlowG
import Derived.Handy
namespace Go.Proofs.Ytcnhkcbkeneobaa
open Go.RowKit
theorem flat_at : ∀ (xs : List GEdge) (k j : Nat) (x : GEdge) (v : Value), xs[k]? = some x → (encE x)[j]? = some v → (xs.flatMap encE)[k * 3 + j]? = some v
  | y :: ys, 0, j, x, v, hx, hv => by
    simp at hx
    subst hx
    rw [List.flatMap_cons, List.getElem?_append_left (by rw [Nat.zero_mul, Nat.zero_add]; exact (List.getElem?_eq_some_iff.1 hv).1), Nat.zero_mul, Nat.zero_add]
    exact hv
  | y :: ys, k + 1, j, x, v, hx, hv => by
    have hl : (encE y).length = 3 := rfl
    rw [List.flatMap_cons, List.getElem?_append_right (by rw [hl]; omega), hl, show (k + 1) * 3 + j - 3 = k * 3 + j by omega]
    exact flat_at ys k j x v (by simpa using hx) hv
theorem flat_len : ∀ xs : List GEdge, (xs.flatMap encE).length = xs.length * 3
  | [] => rfl
  | y :: ys => by
    rw [List.flatMap_cons, List.length_append, flat_len ys, List.length_cons]
    have hl : (encE y).length = 3 := rfl
    omega
theorem rd_lit (w : World) (xs : List GEdge) : Rd 3 encE (w.alloc (.cells (xs.flatMap encE).toArray 39)) (some ⟨w.heap.size, 0, none⟩) xs :=
  (Own.new w 39 (xs.flatMap encE).toArray undef).rd (by rw [List.size_toArray, flat_len]; exact Nat.le_refl _) (fun _ => rfl) (fun k x hx j v hv => by
    show (xs.flatMap encE).toArray[k * 3 + j]?.getD undef = v
    rw [List.getElem?_toArray, flat_at xs k j x v hx hv]; rfl)
theorem rd_litI (w : World) (xs : List Int) : Rd 1 encI (w.alloc (.cells (xs.map (Value.int .i64)).toArray 3)) (some ⟨w.heap.size, 0, none⟩) xs :=
  (Own.new w 3 (xs.map (Value.int .i64)).toArray undef).rd (by simp) (fun _ => rfl) (fun k x hx j v hv => by
    have hj : j = 0 := by have := (List.getElem?_eq_some_iff.1 hv).1; simp [encI] at this; exact this
    subst hj
    simp only [encI, List.getElem?_cons_zero, Option.some.injEq] at hv
    show (xs.map (Value.int .i64)).toArray[k * 1 + 0]?.getD undef = v
    rw [List.getElem?_toArray, Nat.mul_one, Nat.add_zero, List.getElem?_map, hx, ← hv]; rfl)
theorem rd_litB (w : World) (xs : List Bool) : Rd 1 encB (w.alloc (.cells (xs.map Value.bool).toArray 4)) (some ⟨w.heap.size, 0, none⟩) xs :=
  (Own.new w 4 (xs.map Value.bool).toArray undef).rd (by simp) (fun _ => rfl) (fun k x hx j v hv => by
    have hj : j = 0 := by have := (List.getElem?_eq_some_iff.1 hv).1; simp [encB] at this; exact this
    subst hj
    simp only [encB, List.getElem?_cons_zero, Option.some.injEq] at hv
    show (xs.map Value.bool).toArray[k * 1 + 0]?.getD undef = v
    rw [List.getElem?_toArray, Nat.mul_one, Nat.add_zero, List.getElem?_map, hx, ← hv]; rfl)
theorem head_good : checkB 3 gOne 0 2 [3, 3] [true, true, false] = true := by
  have hf : IsFlow 3 gOne 0 2 [3, 3] := by
    refine ⟨rfl, fun i hi => ?_, fun u h0 h1 h2 h3 => ?_⟩
    · have : i = 0 ∨ i = 1 := by have h : i < 2 := hi; omega
      rcases this with rfl | rfl <;> decide
    · have : u = 1 := by omega
      subst this
      decide
  have hc : cutB 3 0 2 [true, true, false] = true := by decide
  have hn : net gOne [3, 3] 0 = capac gOne [true, true, false] := by decide
  unfold checkB
  rw [gOne_ok, flowB_iff.2 hf, hc, hn]
  simp
theorem head_bad : checkB 3 gOne 0 2 [2, 2] [true, true, false] = false := by
  have hn : decide (net gOne [2, 2] 0 = capac gOne [true, true, false]) = false := by decide
  unfold checkB
  rw [hn]
  simp
set_option maxRecDepth 100000 in
set_option maxHeartbeats 2000000 in
theorem lfExample_any (w : World) : Calls Try.prog 23 #[] w fun e w' => ∃ A c, e = .returned (.agg #[.int .i64 4, .slice A 5 c]) ∧ Below w.heap.size w w' ∧ Rd 3 encE w' A gTwo ∧ ∀ a, A = some a → w.heap.size ≤ a.block := by
  go_enter Try.func23, Try.ntmps23
  go_wp2_with fail
  go_returns
  refine ⟨some ⟨w.heap.size + 1, 0, none⟩, 5, rfl, ((Below.refl _ w).alloc (Nat.le_refl _) _).alloc (by simp) _, ?_, fun a ha => ?_⟩
  · have h := rd_lit (w.alloc (.cells #[.int .i64 4, .slice (some ⟨w.heap.size + 1, 0, none⟩) 5 5] 24)) gTwo
    rw [World.size_alloc] at h
    exact h
  · cases ha
    exact Nat.le_succ _
set_option maxRecDepth 100000 in
set_option maxHeartbeats 2000000 in
theorem lfHead_any (w : World) : Calls Try.prog 10 #[] w fun e w' => e = .returned (.bool true) ∧ Below w.heap.size w w' := by
  have h1 := (rd_lit w gOne).keep ((Below.refl _ _).alloc (Nat.le_refl _) (.cells #[.int .i64 3, .slice (some ⟨w.heap.size, 0, none⟩) 2 2] 24))
  go_enter Try.func10, Try.ntmps10
  go_wp2_with fail
  refine (fMost_ok 3 2 2 0 2 _ gOne _ h1 (Lib.hid rfl) (Lib.hid gOne_ok)).mono ?_
  rintro e w1 ⟨gF, gs, fl, side, rfl, o1, o2, hf, hc, hcap, hb, z1, z2⟩
  obtain ⟨rfl, rfl⟩ := head_one hf hc hcap
  have hn : net gOne [3, 3] ((0 : Nat) : Int) = 3 := by decide
  rw [hn]
  have hbw : Below w.heap.size w w1 := below_then (((Below.refl _ w).alloc (Nat.le_refl _) _).alloc (by simp) _) hb
  have k0 : w1.cell? ⟨w.heap.size + 1, 0, none⟩ = some (.int .i64 3) := (hb.cell (p := ⟨w.heap.size + 1, 0, none⟩) (by simp)).trans (by go_simp)
  have k1 : w1.cell? ⟨w.heap.size + 1, 1, none⟩ = some (.slice (some ⟨w.heap.size, 0, none⟩) 2 2) := (hb.cell (p := ⟨w.heap.size + 1, 1, none⟩) (by simp)).trans (by go_simp)
  have r1 := h1.keep hb
  clear hb hn hf hc hcap h1
  go_wp2_with fail
  refine (lfExample_any w1).mono ?_
  rintro e w2 ⟨A2, c2, rfl, hb2, r2, _⟩
  have hbx : Below w1.heap.size w1 w2 := hb2
  go_wp2_with fail
  refine (fMost_ok 4 c2 5 0 3 A2 gTwo w2 r2 (Lib.hid rfl) (Lib.hid gTwo_ok)).mono ?_
  rintro e w3 ⟨gF3, gs3, fl3, side3, rfl, _, _, hf, hc, hcap, hb3, _, _⟩
  have hn : net gTwo fl3 ((0 : Nat) : Int) = 9 := IsMost.eq gTwo_ok ⟨fl3, side3, hf, hc, rfl, hcap⟩ most_two
  rw [hn]
  have hb13 : Below w1.heap.size w1 w3 := below_then hbx hb3
  clear hb2 hb3 hbx hn hf hc hcap r2
  go_wp2_with fail
  refine (fMost_ok 2 0 0 0 1 none [] w3 (fun h => absurd h (Nat.not_lt_zero _)) (Lib.hid rfl) (Lib.hid gNone_ok)).mono ?_
  rintro e w4 ⟨gF4, gs4, fl4, side4, rfl, _, _, hf, hc, hcap, hb4, _, _⟩
  have hn : net [] fl4 ((0 : Nat) : Int) = 0 := rfl
  rw [hn]
  have hb14 : Below w1.heap.size w1 w4 := below_then hb13 hb4
  clear hb4 hb13 hn hf hc hcap
  have l1 : w.heap.size + 1 < w1.heap.size := World.block_lt_of_cell? w1 _ k0
  have k0' : w4.cell? ⟨w.heap.size + 1, 0, none⟩ = some (.int .i64 3) := (hb14.cell (p := ⟨w.heap.size + 1, 0, none⟩) l1).trans k0
  have k1' : w4.cell? ⟨w.heap.size + 1, 1, none⟩ = some (.slice (some ⟨w.heap.size, 0, none⟩) 2 2) := (hb14.cell (p := ⟨w.heap.size + 1, 1, none⟩) l1).trans k1
  go_wp2_with fail
  refine (fMost_bad 3 1 1 2 2 _ gOne w4 (r1.keep hb14) (Lib.hid rfl) (by omega) (Lib.hid (by decide))).mono ?_
  rintro e w5 ⟨rfl, hb5⟩
  have hb15 : Below w1.heap.size w1 w5 := below_then hb14 hb5
  clear hb5 hb14 k0' k1'
  have k0' : w5.cell? ⟨w.heap.size + 1, 0, none⟩ = some (.int .i64 3) := (hb15.cell (p := ⟨w.heap.size + 1, 0, none⟩) l1).trans k0
  have k1' : w5.cell? ⟨w.heap.size + 1, 1, none⟩ = some (.slice (some ⟨w.heap.size, 0, none⟩) 2 2) := (hb15.cell (p := ⟨w.heap.size + 1, 1, none⟩) l1).trans k1
  have o1' := o1.keep hb15 o1.lt
  have o2' := o2.keep hb15 o2.lt
  have p0 : w5.cell? ⟨gF, 0, none⟩ = some (.int .i64 3) := o1'.cell (i := 0) (by omega)
  have p1 : w5.cell? ⟨gF, 1, none⟩ = some (.int .i64 3) := o1'.cell (i := 1) (by omega)
  have q0 : w5.cell? ⟨gs, 0, none⟩ = some (.bool true) := o2'.cell (i := 0) (by omega)
  have q1 : w5.cell? ⟨gs, 1, none⟩ = some (.bool true) := o2'.cell (i := 1) (by omega)
  have q2 : w5.cell? ⟨gs, 2, none⟩ = some (.bool false) := o2'.cell (i := 2) (by omega)
  have r5 := r1.keep hb15
  clear o1 o2 o1' o2' z1 z2 k0 k1
  have l5 : w.heap.size + 1 < w5.heap.size := Nat.lt_of_lt_of_le l1 hb15.size
  go_wp2_with fail
  refine (fValid_any 3 _ 2 2 gOne w5 r5 rfl (by omega)).mono ?_
  rintro e w6 ⟨rfl, hb6⟩
  rw [show okG 3 gOne = true by decide]
  go_wp2_with fail
  refine (fValid_any 0 none 0 0 [] w6 Rd.nil rfl (by omega)).mono ?_
  rintro e w7 ⟨rfl, hb7⟩
  rw [show okG 0 [] = false by decide]
  have hb57 : Below w5.heap.size w5 w7 := below_then hb6 hb7
  have k07 : w7.cell? ⟨w.heap.size + 1, 0, none⟩ = some (.int .i64 3) := (hb57.cell (p := ⟨w.heap.size + 1, 0, none⟩) l5).trans k0'
  have k17 : w7.cell? ⟨w.heap.size + 1, 1, none⟩ = some (.slice (some ⟨w.heap.size, 0, none⟩) 2 2) := (hb57.cell (p := ⟨w.heap.size + 1, 1, none⟩) l5).trans k1'
  have r7 := r5.keep hb57
  clear k0' k1' hb6 hb7 p0 p1 q0 q1 q2
  have a1 : Below w7.heap.size w7 (w7.alloc (.cells #[.int .i64 3, .int .i64 3] 3)) := (Below.refl _ _).alloc (Nat.le_refl _) _
  have a2 : Below w7.heap.size w7 ((w7.alloc (.cells #[.int .i64 3, .int .i64 3] 3)).alloc (.cells #[.bool true, .bool true, .bool false] 4)) := a1.alloc (by simp) _
  have t2 := rd_litB (w7.alloc (.cells #[.int .i64 3, .int .i64 3] 3)) [true, true, false]
  rw [World.size_alloc] at t2
  go_wp2_with fail
  refine (fCheck_any 3 0 2 _ _ _ 2 2 3 2 2 3 gOne [3, 3] [true, true, false] _ (r7.keep a2) rfl (by omega) ((rd_litI w7 [3, 3]).keep ((Below.refl _ _).alloc (Nat.le_refl _) _)) rfl (by omega) t2 rfl (by omega)).mono ?_
  rintro e w8 ⟨rfl, hb8⟩
  rw [head_good]
  have hb58 : Below w5.heap.size w5 w8 := below_then hb57 (below_then a2 hb8)
  have k08 : w8.cell? ⟨w.heap.size + 1, 0, none⟩ = some (.int .i64 3) := ((below_then a2 hb8).cell (p := ⟨w.heap.size + 1, 0, none⟩) (Nat.lt_of_lt_of_le l5 hb57.size)).trans k07
  have k18 : w8.cell? ⟨w.heap.size + 1, 1, none⟩ = some (.slice (some ⟨w.heap.size, 0, none⟩) 2 2) := ((below_then a2 hb8).cell (p := ⟨w.heap.size + 1, 1, none⟩) (Nat.lt_of_lt_of_le l5 hb57.size)).trans k17
  have r8 := r5.keep hb58
  clear k07 k17 hb8 r7 a1 a2 t2
  have a1 : Below w8.heap.size w8 (w8.alloc (.cells #[.int .i64 2, .int .i64 2] 3)) := (Below.refl _ _).alloc (Nat.le_refl _) _
  have a2 : Below w8.heap.size w8 ((w8.alloc (.cells #[.int .i64 2, .int .i64 2] 3)).alloc (.cells #[.bool true, .bool true, .bool false] 4)) := a1.alloc (by simp) _
  have t2 := rd_litB (w8.alloc (.cells #[.int .i64 2, .int .i64 2] 3)) [true, true, false]
  rw [World.size_alloc] at t2
  go_wp2_with fail
  refine (fCheck_any 3 0 2 _ _ _ 2 2 3 2 2 3 gOne [2, 2] [true, true, false] _ (r8.keep a2) rfl (by omega) ((rd_litI w8 [2, 2]).keep ((Below.refl _ _).alloc (Nat.le_refl _) _)) rfl (by omega) t2 rfl (by omega)).mono ?_
  rintro e w9 ⟨rfl, hb9⟩
  rw [head_bad]
  have hend : Below w.heap.size w w9 := below_then hbw (below_then hb15 (below_then hb58 (below_then a2 hb9)))
  go_wp2_with fail
  go_ret
  exact ⟨rfl, hend⟩
set_option maxRecDepth 100000 in
theorem lfFew_any (nodes : Int) (A : Option Addr) (c N : Nat) (w : World) : Calls Try.prog 11 #[.agg #[.int .i64 nodes, .slice A N c]] w fun e w' => e = .returned (.bool (decide ((N : Int) ≤ 600))) ∧ Below w.heap.size w w' := by
  go_enter Try.func11, Try.ntmps11
  go_wp2_with fail
  go_ret
  exact ⟨rfl, (Below.refl _ w).alloc (Nat.le_refl _) _⟩
end Go.Proofs.Ytcnhkcbkeneobaa
