/-
Several texts in one: TwF, TwH, TwI, TwJ.
-/
import Derived.Test.YtkbbapefgifagaaGreatDoorGTwA
import Derived.Test.YtkbbapefgifagaaGreatDoorGLTreeA
import Derived.Test.YtkbbapefgifagaaGreatDoorGLLimG
import Derived.Laws.CopyOwn
/-
Two controllers: the iterator over the leases that may be alive.
-/
namespace Go.Proofs.YtkbbapefgifagaaGreatDoor
open Go.RowKit Go.Shelf
set_option linter.unusedVariables false
set_option linter.unusedSimpArgs false
theorem grown_noneT {A B : World} (h : Below A.heap.size A B) : A.grownBy B none := ⟨h.os, h.tape, h.output, h.size, fun i hi _ => h.block i hi⟩
theorem exL_pre {tick : Int} {ls : List Lse} {k : Nat} : exL tick (ls.take k) <+: exL tick ls := by
  unfold exL
  conv => rhs; rw [← List.take_append_drop k ls, List.filter_append]
  exact List.prefix_append _ _
theorem leSeq_any (A : Option Addr) (n c : Nat) (tick : Int) (w : World) : Calls Tryz.prog 34 #[.slice A n c, .int .i64 tick] w fun e w' =>
    e = .returned (.func (.func 54) #[] #[.pointer (some ⟨w.heap.size, 0, none⟩), .pointer (some ⟨w.heap.size + 1, 0, none⟩)]) ∧ w' = (w.alloc (.cells #[.slice A n c] 40)).alloc (.cells #[.int .i64 tick] 3) := by
  go_enter Tryz.func34, Tryz.ntmps34
  go_wp2_with fail
  go_ret
  refine ⟨?_, rfl⟩
  simp
abbrev LsAt (ls : List Lse) : Type := { x : Lse // x ∈ ls }
/-- What a round over leases may not change. -/
structure KpL (B b1 b2 : Nat) (W W' : World) : Prop where
  bel : Below B W W'
  s1 : W'.heap[b1]? = W.heap[b1]?
  s2 : W'.heap[b2]? = W.heap[b2]?
set_option maxRecDepth 100000 in
set_option maxHeartbeats 8000000 in
theorem leSeq1_in (m : Nat) (hm : 1 ≤ m) (l b1 b2 B : Nat) (aL : Option Addr) (nL cL : Nat) (ls : List Lse) (tick : Int) (HN : Hid (ls.length = nL)) (HO : Hid (LsOk ls)) (HFT : Hid (∀ x ∈ ls, x.frm ≤ tick)) (hA : ∀ a, aL = some a → ls ≠ [] → a.block < B) (J Jx : List (LsAt ls) → World → Prop) (W : World)
    (hJ : AbidesFrom W.heap.size J)
    (hY : ∀ (pre : List (LsAt ls)) (x : LsAt ls) W1, J pre W1 → pre.length < (exL tick ls).length → YieldAt Fence.wide (m - 1) Tryz.prog l #[.agg #[.int .i64 x.1.num, .int .i64 x.1.chg, .int .i64 x.1.amp, .int .i64 x.1.frm, .int .i64 x.1.tck]] W1 fun e W' =>
      (e = .returned (.bool true) ∧ J (pre ++ [x]) W' ∧ KpL B b1 b2 W1 W') ∨ (e = .returned (.bool false) ∧ Jx (pre ++ [x]) W'))
    (hb1 : W.cell? ⟨b1, 0, none⟩ = some (.slice aL nL cL)) (hb2 : W.cell? ⟨b2, 0, none⟩ = some (.int .i64 tick)) (hR : Rd 5 encLse W aL ls) (h0 : J [] W) :
    CallsIn Fence.wide m Tryz.prog 54 #[.func (.yield l) #[] #[], .pointer (some ⟨b1, 0, none⟩), .pointer (some ⟨b2, 0, none⟩)] W fun e W' => (∃ v, e = .returned v) ∧
      ((∃ ys : List (LsAt ls), ys.map (·.1) = exL tick ls ∧ J ys W') ∨ (∃ pre : List (LsAt ls), pre.map (·.1) <+: exL tick ls ∧ Jx pre W')) := by
  have HYD := Lib.hid hY
  have HJ := Lib.hid hJ
  have HR0 := Lib.hid hR
  have HA := Lib.hid hA
  have hn64 : nL ≤ 64 := by rw [← HN.out]; exact HO.out.len
  clear hY hJ hR hA
  refine callsIn_of_wp Tryz.func54 rfl trivial ?_ rfl
  simp only [Tryz.ntmps54, List.size_toArray, List.length_cons, List.length_nil, Nat.reduceAdd, Nat.reduceSub, Array.replicate_succ, Array.replicate_zero, List.push_toArray, List.append_toArray, List.nil_append, List.cons_append]
  refine wpIn_wide.2 ?_
  have l1 : b1 < W.heap.size := zb hb1
  go_wp2_with fail
  go_step3
  go_wp2_with fail
  go_step3
  go_wp2_with fail
  go_loopg [8] nL (fun g1 v8 wr => ∃ (k : Nat) (pre : List (LsAt ls)), v8 = .int .i64 k ∧ k ≤ nL ∧ nL - k ≤ g1 ∧ Hid (pre.map (·.1) = exL tick (ls.take k)) ∧ Hid (J pre wr) ∧ Hid (Rd 5 encLse wr aL ls) ∧ Hid (wr.cell? ⟨b1, 0, none⟩ = some (.slice aL nL cL)) ∧ Hid (wr.cell? ⟨b2, 0, none⟩ = some (.int .i64 tick)) ∧ Hid (W.heap.size ≤ wr.heap.size))
  case atStart => exact ⟨0, [], by go_num, by omega, by omega, Lib.hid rfl, Lib.hid h0, HR0, Lib.hid hb1, Lib.hid hb2, Lib.hid (Nat.le_refl _)⟩
  case round =>
    clear hb1 hb2 h0 HR0 l1
    obtain ⟨k, pre, rfl, hk, hg1, Hpre, HJp, HR, HB1, HB2, HSW⟩ := hrel
    by_cases hlt : k < nL
    · have hltz : (k : Int) < (nL : Int) := by omega
      obtain ⟨bb, off, x, hA, hlb0, hgx, c0, c1, c2, c3, c4⟩ := rdLse_at HR.out (show k < ls.length by rw [HN.out]; exact hlt)
      have HOX := Lib.hid (HO.out.at_ hgx)
      have hft := HFT.out x (List.mem_of_getElem? hgx)
      have hftz : ¬ tick < x.frm := by omega
      obtain ⟨w1, hw1⟩ : ∃ W, W = wr.alloc (.cells #[.int .i64 x.num, .int .i64 x.chg, .int .i64 x.amp, .int .i64 x.frm, .int .i64 x.tck] 96) := ⟨_, rfl⟩
      obtain ⟨Y, hY⟩ : ∃ Y, Y = wr.heap.size := ⟨_, rfl⟩
      have hb1 : Below wr.heap.size wr w1 := by rw [hw1]; exact (Below.refl _ _).alloc (Nat.le_refl _) _
      have HY : Hid (LseM wr w1 Y x) := Lib.hid (by rw [hw1, hY]; exact LseM.box (Below.refl _ _))
      have HJ1 : Hid (J pre w1) := Lib.hid (HJ.out pre wr _ none HJp.out (grown_noneT hb1) (fun r e => by cases e))
      have HB1 := Lib.hid ((hb1.cell (p := ⟨b1, 0, none⟩) (zb HB1.out)).trans HB1.out)
      have HB2 := Lib.hid ((hb1.cell (p := ⟨b2, 0, none⟩) (zb HB2.out)).trans HB2.out)
      have HR := Lib.hid (HR.out.keep hb1)
      have HSW := Lib.hid (Nat.le_trans HSW.out hb1.size)
      clear HJp
      have HW1 := Lib.hid (And.intro hw1.symm hY.symm)
      clear hw1 hY hb1
      have HGX := Lib.hid hgx
      have HAA := Lib.hid hA
      subst hA
      clear hgx
      go_upto_region 3 with (fail)
      rw [HW1.out.1, HW1.out.2]
      clear HW1 c0 c1 c2 c3 c4
      obtain ⟨y0, y1, y2, y3, y4⟩ : w1.cell? ⟨Y, 0, none⟩ = some (.int .i64 x.num) ∧ w1.cell? ⟨Y, 1, none⟩ = some (.int .i64 x.chg) ∧ w1.cell? ⟨Y, 2, none⟩ = some (.int .i64 x.amp) ∧ w1.cell? ⟨Y, 3, none⟩ = some (.int .i64 x.frm) ∧ w1.cell? ⟨Y, 4, none⟩ = some (.int .i64 x.tck) := ⟨HY.out.k0, HY.out.k1, HY.out.k2, HY.out.k3, HY.out.k4⟩
      have hlY : Y < w1.heap.size := World.block_lt_of_cell? w1 _ y0
      have q2 := HB2.out
      have q1 := HB1.out
      have l2 : b2 < w1.heap.size := World.block_lt_of_cell? w1 _ q2
      have l1 : b1 < w1.heap.size := World.block_lt_of_cell? w1 _ q1
      go_upto_region 4 with (fail)
      by_cases he : tick < x.frm + 23
      · have hez : ¬ x.frm + 23 ≤ tick := by omega
        refine region_z (S := fun w' => Below w1.heap.size w1 w') [] (by kernel_rfl) ((Below.refl _ _).drew) (fun hHeld => ?_)
        refine zt (i := 0) (v := .agg #[.int .i64 x.num, .int .i64 x.chg, .int .i64 x.amp, .int .i64 x.frm, .int .i64 x.tck]) [] (fun w' hSw => ?_) hHeld ?_
        · have y0' := (hSw.cell (p := ⟨Y, 0, none⟩) hlY).trans y0
          have y1' := (hSw.cell (p := ⟨Y, 1, none⟩) hlY).trans y1
          have y2' := (hSw.cell (p := ⟨Y, 2, none⟩) hlY).trans y2
          have y3' := (hSw.cell (p := ⟨Y, 3, none⟩) hlY).trans y3
          have y4' := (hSw.cell (p := ⟨Y, 4, none⟩) hlY).trans y4
          have hlY' : Y < w'.heap.size := Nat.lt_of_lt_of_le hlY hSw.size
          clear hHeld hSw
          go_simp
        simp only [Act.put, zl0, zl1, zl2, zl3, zl4, zl5]
        refine zt (i := 2) (v := .int .i64 tick) [] (fun w' hSw => ?_) hHeld ?_
        · have q2' := (hSw.cell (p := ⟨b2, 0, none⟩) l2).trans q2
          have l2' : b2 < w'.heap.size := Nat.lt_of_lt_of_le l2 hSw.size
          clear hHeld hSw
          go_simp
        simp only [Act.put, zl0, zl1, zl2, zl3, zl4, zl5]
        refine zo 1 (fun K' hK => ?_)
        go_simp
        refine (leEnd_any x _ HOX.out).mono ?_
        rintro e w4 ⟨rfl, hb4⟩
        refine hK.out _ _ ?_ (fun hHeld' => ?_)
        · exact below_then hHeld hb4
        clear hK K' hHeld hb4
        have hHeld := hHeld'
        clear hHeld'
        try simp only [Act.put, zl0, zl1, zl2, zl3, zl4, zl5]
        refine zt (i := 3) (v := .bool false) [] (fun w' hSw => ?_) hHeld ?_
        · clear hHeld hSw
          go_simp
          first | done | omega
        simp only [Act.put, zl0, zl1, zl2, zl3, zl4, zl5]
        refine zt (i := 4) (v := .bool false) [] (fun w' hSw => ?_) hHeld ?_
        · clear hHeld hSw
          go_simp
        simp only [Act.put, zl0, zl1, zl2, zl3, zl4, zl5]
        refine wpAnyZ_done (by kernel_rfl) ?_ _
        have HSW := Lib.hid (Nat.le_trans HSW.out hHeld.size)
        have HW4 := Lib.hid hHeld
        have hJ4 : J pre w4 := HJ.out pre w1 _ none HJ1.out (grown_noneT hHeld) (fun r e => by cases e)
        have q14 := (hHeld.cell (p := ⟨b1, 0, none⟩) l1).trans q1
        have q24 := (hHeld.cell (p := ⟨b2, 0, none⟩) l2).trans q2
        have HR4 := Lib.hid (HR.out.keep hHeld)
        have z04 := (hHeld.cell (p := ⟨Y, 0, none⟩) hlY).trans y0
        have z14 := (hHeld.cell (p := ⟨Y, 1, none⟩) hlY).trans y1
        have z24 := (hHeld.cell (p := ⟨Y, 2, none⟩) hlY).trans y2
        have z34 := (hHeld.cell (p := ⟨Y, 3, none⟩) hlY).trans y3
        have z44 := (hHeld.cell (p := ⟨Y, 4, none⟩) hlY).trans y4
        have hlY4 : Y < w4.heap.size := Nat.lt_of_lt_of_le hlY hHeld.size
        clear hHeld y0 y1 y2 y3 y4 hlY q1 q2 l1 l2 HR HJ1
        have hin : x ∈ ls := List.mem_of_getElem? HGX.out
        have HNX : Hid ((pre ++ [(⟨x, hin⟩ : LsAt ls)]).map (·.1) = exL tick (ls.take (k + 1))) := Lib.hid (by rw [exL_yes HGX.out he, ← Hpre.out, List.map_append]; rfl)
        have HPF : Hid ((pre ++ [(⟨x, hin⟩ : LsAt ls)]).map (·.1) <+: exL tick ls) := Lib.hid (by rw [HNX.out]; exact exL_pre)
        have hpf : pre.length < (exL tick ls).length := by
          have h := HPF.out.length_le
          rw [List.length_map, List.length_append, List.length_singleton] at h
          omega
        obtain ⟨fn, tmps, assign, body, hy, hRd⟩ := HYD.out pre ⟨x, hin⟩ w4 hJ4 hpf
        try dsimp only at hy
        clear hpf hJ4
        go_upto_region 5 with (fail)
        refine (wpIn_wide (n := m)).1 ?_
        gi_wp2
        refine hRd.mono ?_
        rintro e' W3 (⟨rfl, hJ3, hk3⟩ | ⟨rfl, hJx3⟩)
        · have HJ3 := Lib.hid hJ3
          have HB13 : Hid (W3.cell? ⟨b1, 0, none⟩ = some (.slice (some ⟨bb, off, none⟩) nL cL)) := Lib.hid ((World.cell?_of_block (w := w4) (a := ⟨b1, 0, none⟩) hk3.s1).trans q14)
          have HB23 : Hid (W3.cell? ⟨b2, 0, none⟩ = some (.int .i64 tick)) := Lib.hid ((World.cell?_of_block (w := w4) (a := ⟨b2, 0, none⟩) hk3.s2).trans q24)
          have HR3 : Hid (Rd 5 encLse W3 (some ⟨bb, off, none⟩) ls) := Lib.hid (HR4.out.belowB hk3.bel (fun a ha => HA.out a ha (fun e => by have := HN.out; rw [e] at this; simp at this; omega)))
          have HSW3 := Lib.hid (Nat.le_trans HSW.out hk3.bel.size)
          clear hJ3 hk3 q14 q24 HR4 z04 z14 z24 z34 z44 hlY4 HB1 HB2
          gi_wp2
          go_wp2_with fail
          go_roundg (nL - (k + 1))
          case measure => omega
          case rel => exact ⟨k + 1, _, by go_num, by omega, by omega, HNX, HJ3, HR3, HB13, HB23, HSW3⟩
        · gi_wp2
          go_wp2_with fail
          rw [Exit.noGoto_ret]
          refine bodyPost_ret (results_none (by kernel_rfl) _ _ _) rfl ?_
          exact ⟨⟨_, rfl⟩, .inr ⟨_, HPF.out, hJx3⟩⟩
      · have hez : x.frm + 23 ≤ tick := by omega
        refine region_z (S := fun w' => Below w1.heap.size w1 w') [] (by kernel_rfl) ((Below.refl _ _).drew) (fun hHeld => ?_)
        refine zt (i := 0) (v := .agg #[.int .i64 x.num, .int .i64 x.chg, .int .i64 x.amp, .int .i64 x.frm, .int .i64 x.tck]) [] (fun w' hSw => ?_) hHeld ?_
        · have y0' := (hSw.cell (p := ⟨Y, 0, none⟩) hlY).trans y0
          have y1' := (hSw.cell (p := ⟨Y, 1, none⟩) hlY).trans y1
          have y2' := (hSw.cell (p := ⟨Y, 2, none⟩) hlY).trans y2
          have y3' := (hSw.cell (p := ⟨Y, 3, none⟩) hlY).trans y3
          have y4' := (hSw.cell (p := ⟨Y, 4, none⟩) hlY).trans y4
          have hlY' : Y < w'.heap.size := Nat.lt_of_lt_of_le hlY hSw.size
          clear hHeld hSw
          go_simp
        simp only [Act.put, zl0, zl1, zl2, zl3, zl4, zl5]
        refine zt (i := 2) (v := .int .i64 tick) [] (fun w' hSw => ?_) hHeld ?_
        · have q2' := (hSw.cell (p := ⟨b2, 0, none⟩) l2).trans q2
          have l2' : b2 < w'.heap.size := Nat.lt_of_lt_of_le l2 hSw.size
          clear hHeld hSw
          go_simp
        simp only [Act.put, zl0, zl1, zl2, zl3, zl4, zl5]
        refine zo 1 (fun K' hK => ?_)
        go_simp
        refine (leEnd_any x _ HOX.out).mono ?_
        rintro e w4 ⟨rfl, hb4⟩
        refine hK.out _ _ ?_ (fun hHeld' => ?_)
        · exact below_then hHeld hb4
        clear hK K' hHeld hb4
        have hHeld := hHeld'
        clear hHeld'
        try simp only [Act.put, zl0, zl1, zl2, zl3, zl4, zl5]
        refine zt (i := 3) (v := .bool true) [] (fun w' hSw => ?_) hHeld ?_
        · clear hHeld hSw
          go_simp
          first | done | omega
        simp only [Act.put, zl0, zl1, zl2, zl3, zl4, zl5]
        refine zt (i := 4) (v := .bool true) [] (fun w' hSw => ?_) hHeld ?_
        · clear hHeld hSw
          go_simp
        simp only [Act.put, zl0, zl1, zl2, zl3, zl4, zl5]
        refine wpAnyZ_done (by kernel_rfl) ?_ _
        have HSW := Lib.hid (Nat.le_trans HSW.out hHeld.size)
        have HW4 := Lib.hid hHeld
        have hJ4 : J pre w4 := HJ.out pre w1 _ none HJ1.out (grown_noneT hHeld) (fun r e => by cases e)
        have q14 := (hHeld.cell (p := ⟨b1, 0, none⟩) l1).trans q1
        have q24 := (hHeld.cell (p := ⟨b2, 0, none⟩) l2).trans q2
        have HR4 := Lib.hid (HR.out.keep hHeld)
        have z04 := (hHeld.cell (p := ⟨Y, 0, none⟩) hlY).trans y0
        have z14 := (hHeld.cell (p := ⟨Y, 1, none⟩) hlY).trans y1
        have z24 := (hHeld.cell (p := ⟨Y, 2, none⟩) hlY).trans y2
        have z34 := (hHeld.cell (p := ⟨Y, 3, none⟩) hlY).trans y3
        have z44 := (hHeld.cell (p := ⟨Y, 4, none⟩) hlY).trans y4
        have hlY4 : Y < w4.heap.size := Nat.lt_of_lt_of_le hlY hHeld.size
        clear hHeld y0 y1 y2 y3 y4 hlY q1 q2 l1 l2 HR HJ1
        have HNX : Hid (pre.map (·.1) = exL tick (ls.take (k + 1))) := Lib.hid (by rw [Hpre.out, exL_no HGX.out he])
        have HJ4 := Lib.hid hJ4
        have HB14 := Lib.hid q14
        have HB24 := Lib.hid q24
        clear hJ4 q14 q24 z04 z14 z24 z34 z44 hlY4 HB1 HB2
        go_wp2_with fail
        go_roundg (nL - (k + 1))
        case measure => omega
        case rel => exact ⟨k + 1, _, by go_num, by omega, by omega, HNX, HJ4, HR4, HB14, HB24, HSW⟩
    · have hltz : ¬ (k : Int) < (nL : Int) := by omega
      have HE : Hid (pre.map (·.1) = exL tick ls) := Lib.hid (by rw [Hpre.out, List.take_of_length_le (by rw [HN.out]; omega)])
      clear Hpre
      go_wp2_with fail
      go_end0
      exact ⟨⟨_, rfl⟩, .inl ⟨pre, HE.out, HJp.out⟩⟩
end Go.Proofs.YtkbbapefgifagaaGreatDoor
/-
Two controllers: lease.Alive.
-/
namespace Go.Proofs.YtkbbapefgifagaaGreatDoor
open Go.RowKit Go.Shelf
set_option linter.unusedVariables false
set_option linter.unusedSimpArgs false
attribute [local go_sem] Oper.semAt_some
def updF (f : Nat → Int) (k : Nat) (a : Int) : Nat → Int := fun i => if i = k then max (f k) a else f i
set_option maxRecDepth 100000 in
set_option maxHeartbeats 4000000 in
theorem leKeep_any (g n cg R k : Nat) (f : Nat → Int) (a0 am a3 a4 : Int) (w : World) (hk : k < n) (hR : w.cell? ⟨R, 0, none⟩ = some (.slice (some ⟨g, 0, none⟩) n cg)) (HO : Hid (Own w g 3 n (fun i => .int .i64 (f i)))) :
    Calls Tryz.prog 33 #[.agg #[.int .i64 a0, .int .i64 (k : Nat), .int .i64 am, .int .i64 a3, .int .i64 a4], .pointer (some ⟨R, 0, none⟩)] w fun e w' => e = .returned (.tuple #[]) ∧ Own w' g 3 n (fun i => .int .i64 (updF f k am i)) ∧ Mod (fun j => j = g) w w' := by
  obtain ⟨W0, hW0⟩ : ∃ W, W = w.alloc (.cells #[.int .i64 a0, .int .i64 (k : Nat), .int .i64 am, .int .i64 a3, .int .i64 a4] 96) := ⟨_, rfl⟩
  obtain ⟨Y, hY⟩ : ∃ Y, Y = w.heap.size := ⟨_, rfl⟩
  have hb : Below w.heap.size w W0 := by rw [hW0]; exact (Below.refl _ _).alloc (Nat.le_refl _) _
  have y1 : W0.cell? ⟨Y, 1, none⟩ = some (.int .i64 (k : Nat)) := by rw [hW0, hY]; go_simp
  have y2 : W0.cell? ⟨Y, 2, none⟩ = some (.int .i64 am) := by rw [hW0, hY]; go_simp
  have lR0 := zb hR
  replace hR := (hb.cell (p := ⟨R, 0, none⟩) lR0).trans hR
  have HO0 := Lib.hid (HO.out.keep hb HO.out.lt)
  have HM : Hid (Mod (fun j => j = g) w W0) := Lib.hid (by rw [hW0]; exact (Mod.refl _ _).alloc _)
  have hg := HO0.out.cell (i := k) hk
  have fg := HO0.out.frozen k
  have lg : g < W0.heap.size := HO0.out.lt
  have lR : R < W0.heap.size := zb hR
  have lY : Y < W0.heap.size := zb y1
  have hkz : (k : Int) < (n : Int) := by omega
  have HW0 := Lib.hid (And.intro hW0.symm hY.symm)
  clear hW0 hY hb lR0
  go_enter Tryz.func33, Tryz.ntmps33
  go_upto_region 1 with (fail)
  rw [HW0.out.1, HW0.out.2]
  clear HW0
  by_cases hm : f k < am
  · refine region_z (S := fun w' => Below W0.heap.size W0 w') [12] (by kernel_rfl) ((Below.refl _ _).drew) (fun hHeld => ?_)
    refine zt (i := 0) (v := .slice (some ⟨g, 0, none⟩) n cg) [12] (fun w' hSw => ?_) hHeld ?_
    · have e0 := (hSw.cell (p := ⟨R, 0, none⟩) lR).trans hR
      have e1 := (hSw.cell (p := ⟨Y, 1, none⟩) lY).trans y1
      have e2 := (hSw.cell (p := ⟨Y, 2, none⟩) lY).trans y2
      have e3 := (hSw.cell (p := ⟨g, k, none⟩) lg).trans hg
      have lR' : R < w'.heap.size := Nat.lt_of_lt_of_le lR hSw.size
      have lY' : Y < w'.heap.size := Nat.lt_of_lt_of_le lY hSw.size
      have lg' : g < w'.heap.size := Nat.lt_of_lt_of_le lg hSw.size
      clear hHeld hSw
      go_simp
      first | done | omega
    simp only [Act.put, zl0, zl1, zl2, zl3, zl4, zl5]
    refine zt (i := 1) (v := .pointer (some ⟨Y, 1, none⟩)) [12] (fun w' hSw => ?_) hHeld ?_
    · have e0 := (hSw.cell (p := ⟨R, 0, none⟩) lR).trans hR
      have e1 := (hSw.cell (p := ⟨Y, 1, none⟩) lY).trans y1
      have e2 := (hSw.cell (p := ⟨Y, 2, none⟩) lY).trans y2
      have e3 := (hSw.cell (p := ⟨g, k, none⟩) lg).trans hg
      have lR' : R < w'.heap.size := Nat.lt_of_lt_of_le lR hSw.size
      have lY' : Y < w'.heap.size := Nat.lt_of_lt_of_le lY hSw.size
      have lg' : g < w'.heap.size := Nat.lt_of_lt_of_le lg hSw.size
      clear hHeld hSw
      go_simp
      first | done | omega
    simp only [Act.put, zl0, zl1, zl2, zl3, zl4, zl5]
    refine zt (i := 2) (v := .int .i64 (k : Nat)) [12] (fun w' hSw => ?_) hHeld ?_
    · have e0 := (hSw.cell (p := ⟨R, 0, none⟩) lR).trans hR
      have e1 := (hSw.cell (p := ⟨Y, 1, none⟩) lY).trans y1
      have e2 := (hSw.cell (p := ⟨Y, 2, none⟩) lY).trans y2
      have e3 := (hSw.cell (p := ⟨g, k, none⟩) lg).trans hg
      have lR' : R < w'.heap.size := Nat.lt_of_lt_of_le lR hSw.size
      have lY' : Y < w'.heap.size := Nat.lt_of_lt_of_le lY hSw.size
      have lg' : g < w'.heap.size := Nat.lt_of_lt_of_le lg hSw.size
      clear hHeld hSw
      go_simp
      first | done | omega
    simp only [Act.put, zl0, zl1, zl2, zl3, zl4, zl5]
    refine zt (i := 3) (v := .slice (some ⟨g, 0, none⟩) n cg) [12] (fun w' hSw => ?_) hHeld ?_
    · have e0 := (hSw.cell (p := ⟨R, 0, none⟩) lR).trans hR
      have e1 := (hSw.cell (p := ⟨Y, 1, none⟩) lY).trans y1
      have e2 := (hSw.cell (p := ⟨Y, 2, none⟩) lY).trans y2
      have e3 := (hSw.cell (p := ⟨g, k, none⟩) lg).trans hg
      have lR' : R < w'.heap.size := Nat.lt_of_lt_of_le lR hSw.size
      have lY' : Y < w'.heap.size := Nat.lt_of_lt_of_le lY hSw.size
      have lg' : g < w'.heap.size := Nat.lt_of_lt_of_le lg hSw.size
      clear hHeld hSw
      go_simp
      first | done | omega
    simp only [Act.put, zl0, zl1, zl2, zl3, zl4, zl5]
    refine zt (i := 4) (v := .pointer (some ⟨Y, 1, none⟩)) [12] (fun w' hSw => ?_) hHeld ?_
    · have e0 := (hSw.cell (p := ⟨R, 0, none⟩) lR).trans hR
      have e1 := (hSw.cell (p := ⟨Y, 1, none⟩) lY).trans y1
      have e2 := (hSw.cell (p := ⟨Y, 2, none⟩) lY).trans y2
      have e3 := (hSw.cell (p := ⟨g, k, none⟩) lg).trans hg
      have lR' : R < w'.heap.size := Nat.lt_of_lt_of_le lR hSw.size
      have lY' : Y < w'.heap.size := Nat.lt_of_lt_of_le lY hSw.size
      have lg' : g < w'.heap.size := Nat.lt_of_lt_of_le lg hSw.size
      clear hHeld hSw
      go_simp
      first | done | omega
    simp only [Act.put, zl0, zl1, zl2, zl3, zl4, zl5]
    refine zt (i := 5) (v := .int .i64 (k : Nat)) [12] (fun w' hSw => ?_) hHeld ?_
    · have e0 := (hSw.cell (p := ⟨R, 0, none⟩) lR).trans hR
      have e1 := (hSw.cell (p := ⟨Y, 1, none⟩) lY).trans y1
      have e2 := (hSw.cell (p := ⟨Y, 2, none⟩) lY).trans y2
      have e3 := (hSw.cell (p := ⟨g, k, none⟩) lg).trans hg
      have lR' : R < w'.heap.size := Nat.lt_of_lt_of_le lR hSw.size
      have lY' : Y < w'.heap.size := Nat.lt_of_lt_of_le lY hSw.size
      have lg' : g < w'.heap.size := Nat.lt_of_lt_of_le lg hSw.size
      clear hHeld hSw
      go_simp
      first | done | omega
    simp only [Act.put, zl0, zl1, zl2, zl3, zl4, zl5]
    refine zt (i := 6) (v := .pointer (some ⟨g, k, none⟩)) [12] (fun w' hSw => ?_) hHeld ?_
    · have e0 := (hSw.cell (p := ⟨R, 0, none⟩) lR).trans hR
      have e1 := (hSw.cell (p := ⟨Y, 1, none⟩) lY).trans y1
      have e2 := (hSw.cell (p := ⟨Y, 2, none⟩) lY).trans y2
      have e3 := (hSw.cell (p := ⟨g, k, none⟩) lg).trans hg
      have lR' : R < w'.heap.size := Nat.lt_of_lt_of_le lR hSw.size
      have lY' : Y < w'.heap.size := Nat.lt_of_lt_of_le lY hSw.size
      have lg' : g < w'.heap.size := Nat.lt_of_lt_of_le lg hSw.size
      clear hHeld hSw
      go_simp
      first | done | omega
    simp only [Act.put, zl0, zl1, zl2, zl3, zl4, zl5]
    refine zt (i := 7) (v := .int .i64 (f k)) [12] (fun w' hSw => ?_) hHeld ?_
    · have e0 := (hSw.cell (p := ⟨R, 0, none⟩) lR).trans hR
      have e1 := (hSw.cell (p := ⟨Y, 1, none⟩) lY).trans y1
      have e2 := (hSw.cell (p := ⟨Y, 2, none⟩) lY).trans y2
      have e3 := (hSw.cell (p := ⟨g, k, none⟩) lg).trans hg
      have lR' : R < w'.heap.size := Nat.lt_of_lt_of_le lR hSw.size
      have lY' : Y < w'.heap.size := Nat.lt_of_lt_of_le lY hSw.size
      have lg' : g < w'.heap.size := Nat.lt_of_lt_of_le lg hSw.size
      clear hHeld hSw
      go_simp
      first | done | omega
    simp only [Act.put, zl0, zl1, zl2, zl3, zl4, zl5]
    refine zt (i := 8) (v := .pointer (some ⟨Y, 2, none⟩)) [12] (fun w' hSw => ?_) hHeld ?_
    · have e0 := (hSw.cell (p := ⟨R, 0, none⟩) lR).trans hR
      have e1 := (hSw.cell (p := ⟨Y, 1, none⟩) lY).trans y1
      have e2 := (hSw.cell (p := ⟨Y, 2, none⟩) lY).trans y2
      have e3 := (hSw.cell (p := ⟨g, k, none⟩) lg).trans hg
      have lR' : R < w'.heap.size := Nat.lt_of_lt_of_le lR hSw.size
      have lY' : Y < w'.heap.size := Nat.lt_of_lt_of_le lY hSw.size
      have lg' : g < w'.heap.size := Nat.lt_of_lt_of_le lg hSw.size
      clear hHeld hSw
      go_simp
      first | done | omega
    simp only [Act.put, zl0, zl1, zl2, zl3, zl4, zl5]
    refine zt (i := 9) (v := .int .i64 am) [12] (fun w' hSw => ?_) hHeld ?_
    · have e0 := (hSw.cell (p := ⟨R, 0, none⟩) lR).trans hR
      have e1 := (hSw.cell (p := ⟨Y, 1, none⟩) lY).trans y1
      have e2 := (hSw.cell (p := ⟨Y, 2, none⟩) lY).trans y2
      have e3 := (hSw.cell (p := ⟨g, k, none⟩) lg).trans hg
      have lR' : R < w'.heap.size := Nat.lt_of_lt_of_le lR hSw.size
      have lY' : Y < w'.heap.size := Nat.lt_of_lt_of_le lY hSw.size
      have lg' : g < w'.heap.size := Nat.lt_of_lt_of_le lg hSw.size
      clear hHeld hSw
      go_simp
      first | done | omega
    simp only [Act.put, zl0, zl1, zl2, zl3, zl4, zl5]
    refine zt (i := 10) (v := .int .i64 am) [12] (fun w' hSw => ?_) hHeld ?_
    · have e0 := (hSw.cell (p := ⟨R, 0, none⟩) lR).trans hR
      have e1 := (hSw.cell (p := ⟨Y, 1, none⟩) lY).trans y1
      have e2 := (hSw.cell (p := ⟨Y, 2, none⟩) lY).trans y2
      have e3 := (hSw.cell (p := ⟨g, k, none⟩) lg).trans hg
      have lR' : R < w'.heap.size := Nat.lt_of_lt_of_le lR hSw.size
      have lY' : Y < w'.heap.size := Nat.lt_of_lt_of_le lY hSw.size
      have lg' : g < w'.heap.size := Nat.lt_of_lt_of_le lg hSw.size
      clear hHeld hSw
      go_simp
      first | done | omega
    simp only [Act.put, zl0, zl1, zl2, zl3, zl4, zl5]
    refine zt (i := 11) (v := .pointer (some ⟨g, k, none⟩)) [12] (fun w' hSw => ?_) hHeld ?_
    · have e0 := (hSw.cell (p := ⟨R, 0, none⟩) lR).trans hR
      have e1 := (hSw.cell (p := ⟨Y, 1, none⟩) lY).trans y1
      have e2 := (hSw.cell (p := ⟨Y, 2, none⟩) lY).trans y2
      have e3 := (hSw.cell (p := ⟨g, k, none⟩) lg).trans hg
      have lR' : R < w'.heap.size := Nat.lt_of_lt_of_le lR hSw.size
      have lY' : Y < w'.heap.size := Nat.lt_of_lt_of_le lY hSw.size
      have lg' : g < w'.heap.size := Nat.lt_of_lt_of_le lg hSw.size
      clear hHeld hSw
      go_simp
      first | done | omega
    simp only [Act.put, zl0, zl1, zl2, zl3, zl4, zl5]
    refine wpAnyZ_last (i := 12) (by kernel_rfl) rfl (by kernel_rfl) (fun K' hK => ?_)
    go_simp
    refine hK.out _ _ ?_
    clear hK K'
    try simp only [Act.put, zl3, zl4, zl5]
    refine wpAnyZ_done (by kernel_rfl) ?_ _
    clear hHeld
    go_wp2_with fail
    go_end0
    refine ⟨rfl, ?_, (HM.out.drew).setCell (p := ⟨g, k, none⟩) (.inl rfl) _⟩
    refine (HO0.out.drew.set k (.int .i64 am)).congr (fun i hi => ?_)
    by_cases e : i = k
    · subst e
      rw [if_pos rfl]
      exact val_int (by unfold updF; rw [if_pos rfl]; omega)
    · rw [if_neg e]
      exact val_int (by unfold updF; rw [if_neg e])
  · refine region_z (S := fun w' => Below W0.heap.size W0 w') [12] (by kernel_rfl) ((Below.refl _ _).drew) (fun hHeld => ?_)
    refine zt (i := 0) (v := .slice (some ⟨g, 0, none⟩) n cg) [12] (fun w' hSw => ?_) hHeld ?_
    · have e0 := (hSw.cell (p := ⟨R, 0, none⟩) lR).trans hR
      have e1 := (hSw.cell (p := ⟨Y, 1, none⟩) lY).trans y1
      have e2 := (hSw.cell (p := ⟨Y, 2, none⟩) lY).trans y2
      have e3 := (hSw.cell (p := ⟨g, k, none⟩) lg).trans hg
      have lR' : R < w'.heap.size := Nat.lt_of_lt_of_le lR hSw.size
      have lY' : Y < w'.heap.size := Nat.lt_of_lt_of_le lY hSw.size
      have lg' : g < w'.heap.size := Nat.lt_of_lt_of_le lg hSw.size
      clear hHeld hSw
      go_simp
      first | done | omega
    simp only [Act.put, zl0, zl1, zl2, zl3, zl4, zl5]
    refine zt (i := 1) (v := .pointer (some ⟨Y, 1, none⟩)) [12] (fun w' hSw => ?_) hHeld ?_
    · have e0 := (hSw.cell (p := ⟨R, 0, none⟩) lR).trans hR
      have e1 := (hSw.cell (p := ⟨Y, 1, none⟩) lY).trans y1
      have e2 := (hSw.cell (p := ⟨Y, 2, none⟩) lY).trans y2
      have e3 := (hSw.cell (p := ⟨g, k, none⟩) lg).trans hg
      have lR' : R < w'.heap.size := Nat.lt_of_lt_of_le lR hSw.size
      have lY' : Y < w'.heap.size := Nat.lt_of_lt_of_le lY hSw.size
      have lg' : g < w'.heap.size := Nat.lt_of_lt_of_le lg hSw.size
      clear hHeld hSw
      go_simp
      first | done | omega
    simp only [Act.put, zl0, zl1, zl2, zl3, zl4, zl5]
    refine zt (i := 2) (v := .int .i64 (k : Nat)) [12] (fun w' hSw => ?_) hHeld ?_
    · have e0 := (hSw.cell (p := ⟨R, 0, none⟩) lR).trans hR
      have e1 := (hSw.cell (p := ⟨Y, 1, none⟩) lY).trans y1
      have e2 := (hSw.cell (p := ⟨Y, 2, none⟩) lY).trans y2
      have e3 := (hSw.cell (p := ⟨g, k, none⟩) lg).trans hg
      have lR' : R < w'.heap.size := Nat.lt_of_lt_of_le lR hSw.size
      have lY' : Y < w'.heap.size := Nat.lt_of_lt_of_le lY hSw.size
      have lg' : g < w'.heap.size := Nat.lt_of_lt_of_le lg hSw.size
      clear hHeld hSw
      go_simp
      first | done | omega
    simp only [Act.put, zl0, zl1, zl2, zl3, zl4, zl5]
    refine zt (i := 3) (v := .slice (some ⟨g, 0, none⟩) n cg) [12] (fun w' hSw => ?_) hHeld ?_
    · have e0 := (hSw.cell (p := ⟨R, 0, none⟩) lR).trans hR
      have e1 := (hSw.cell (p := ⟨Y, 1, none⟩) lY).trans y1
      have e2 := (hSw.cell (p := ⟨Y, 2, none⟩) lY).trans y2
      have e3 := (hSw.cell (p := ⟨g, k, none⟩) lg).trans hg
      have lR' : R < w'.heap.size := Nat.lt_of_lt_of_le lR hSw.size
      have lY' : Y < w'.heap.size := Nat.lt_of_lt_of_le lY hSw.size
      have lg' : g < w'.heap.size := Nat.lt_of_lt_of_le lg hSw.size
      clear hHeld hSw
      go_simp
      first | done | omega
    simp only [Act.put, zl0, zl1, zl2, zl3, zl4, zl5]
    refine zt (i := 4) (v := .pointer (some ⟨Y, 1, none⟩)) [12] (fun w' hSw => ?_) hHeld ?_
    · have e0 := (hSw.cell (p := ⟨R, 0, none⟩) lR).trans hR
      have e1 := (hSw.cell (p := ⟨Y, 1, none⟩) lY).trans y1
      have e2 := (hSw.cell (p := ⟨Y, 2, none⟩) lY).trans y2
      have e3 := (hSw.cell (p := ⟨g, k, none⟩) lg).trans hg
      have lR' : R < w'.heap.size := Nat.lt_of_lt_of_le lR hSw.size
      have lY' : Y < w'.heap.size := Nat.lt_of_lt_of_le lY hSw.size
      have lg' : g < w'.heap.size := Nat.lt_of_lt_of_le lg hSw.size
      clear hHeld hSw
      go_simp
      first | done | omega
    simp only [Act.put, zl0, zl1, zl2, zl3, zl4, zl5]
    refine zt (i := 5) (v := .int .i64 (k : Nat)) [12] (fun w' hSw => ?_) hHeld ?_
    · have e0 := (hSw.cell (p := ⟨R, 0, none⟩) lR).trans hR
      have e1 := (hSw.cell (p := ⟨Y, 1, none⟩) lY).trans y1
      have e2 := (hSw.cell (p := ⟨Y, 2, none⟩) lY).trans y2
      have e3 := (hSw.cell (p := ⟨g, k, none⟩) lg).trans hg
      have lR' : R < w'.heap.size := Nat.lt_of_lt_of_le lR hSw.size
      have lY' : Y < w'.heap.size := Nat.lt_of_lt_of_le lY hSw.size
      have lg' : g < w'.heap.size := Nat.lt_of_lt_of_le lg hSw.size
      clear hHeld hSw
      go_simp
      first | done | omega
    simp only [Act.put, zl0, zl1, zl2, zl3, zl4, zl5]
    refine zt (i := 6) (v := .pointer (some ⟨g, k, none⟩)) [12] (fun w' hSw => ?_) hHeld ?_
    · have e0 := (hSw.cell (p := ⟨R, 0, none⟩) lR).trans hR
      have e1 := (hSw.cell (p := ⟨Y, 1, none⟩) lY).trans y1
      have e2 := (hSw.cell (p := ⟨Y, 2, none⟩) lY).trans y2
      have e3 := (hSw.cell (p := ⟨g, k, none⟩) lg).trans hg
      have lR' : R < w'.heap.size := Nat.lt_of_lt_of_le lR hSw.size
      have lY' : Y < w'.heap.size := Nat.lt_of_lt_of_le lY hSw.size
      have lg' : g < w'.heap.size := Nat.lt_of_lt_of_le lg hSw.size
      clear hHeld hSw
      go_simp
      first | done | omega
    simp only [Act.put, zl0, zl1, zl2, zl3, zl4, zl5]
    refine zt (i := 7) (v := .int .i64 (f k)) [12] (fun w' hSw => ?_) hHeld ?_
    · have e0 := (hSw.cell (p := ⟨R, 0, none⟩) lR).trans hR
      have e1 := (hSw.cell (p := ⟨Y, 1, none⟩) lY).trans y1
      have e2 := (hSw.cell (p := ⟨Y, 2, none⟩) lY).trans y2
      have e3 := (hSw.cell (p := ⟨g, k, none⟩) lg).trans hg
      have lR' : R < w'.heap.size := Nat.lt_of_lt_of_le lR hSw.size
      have lY' : Y < w'.heap.size := Nat.lt_of_lt_of_le lY hSw.size
      have lg' : g < w'.heap.size := Nat.lt_of_lt_of_le lg hSw.size
      clear hHeld hSw
      go_simp
      first | done | omega
    simp only [Act.put, zl0, zl1, zl2, zl3, zl4, zl5]
    refine zt (i := 8) (v := .pointer (some ⟨Y, 2, none⟩)) [12] (fun w' hSw => ?_) hHeld ?_
    · have e0 := (hSw.cell (p := ⟨R, 0, none⟩) lR).trans hR
      have e1 := (hSw.cell (p := ⟨Y, 1, none⟩) lY).trans y1
      have e2 := (hSw.cell (p := ⟨Y, 2, none⟩) lY).trans y2
      have e3 := (hSw.cell (p := ⟨g, k, none⟩) lg).trans hg
      have lR' : R < w'.heap.size := Nat.lt_of_lt_of_le lR hSw.size
      have lY' : Y < w'.heap.size := Nat.lt_of_lt_of_le lY hSw.size
      have lg' : g < w'.heap.size := Nat.lt_of_lt_of_le lg hSw.size
      clear hHeld hSw
      go_simp
      first | done | omega
    simp only [Act.put, zl0, zl1, zl2, zl3, zl4, zl5]
    refine zt (i := 9) (v := .int .i64 am) [12] (fun w' hSw => ?_) hHeld ?_
    · have e0 := (hSw.cell (p := ⟨R, 0, none⟩) lR).trans hR
      have e1 := (hSw.cell (p := ⟨Y, 1, none⟩) lY).trans y1
      have e2 := (hSw.cell (p := ⟨Y, 2, none⟩) lY).trans y2
      have e3 := (hSw.cell (p := ⟨g, k, none⟩) lg).trans hg
      have lR' : R < w'.heap.size := Nat.lt_of_lt_of_le lR hSw.size
      have lY' : Y < w'.heap.size := Nat.lt_of_lt_of_le lY hSw.size
      have lg' : g < w'.heap.size := Nat.lt_of_lt_of_le lg hSw.size
      clear hHeld hSw
      go_simp
      first | done | omega
    simp only [Act.put, zl0, zl1, zl2, zl3, zl4, zl5]
    refine zt (i := 10) (v := .int .i64 (f k)) [12] (fun w' hSw => ?_) hHeld ?_
    · have e0 := (hSw.cell (p := ⟨R, 0, none⟩) lR).trans hR
      have e1 := (hSw.cell (p := ⟨Y, 1, none⟩) lY).trans y1
      have e2 := (hSw.cell (p := ⟨Y, 2, none⟩) lY).trans y2
      have e3 := (hSw.cell (p := ⟨g, k, none⟩) lg).trans hg
      have lR' : R < w'.heap.size := Nat.lt_of_lt_of_le lR hSw.size
      have lY' : Y < w'.heap.size := Nat.lt_of_lt_of_le lY hSw.size
      have lg' : g < w'.heap.size := Nat.lt_of_lt_of_le lg hSw.size
      clear hHeld hSw
      go_simp
      first | done | omega
    simp only [Act.put, zl0, zl1, zl2, zl3, zl4, zl5]
    refine zt (i := 11) (v := .pointer (some ⟨g, k, none⟩)) [12] (fun w' hSw => ?_) hHeld ?_
    · have e0 := (hSw.cell (p := ⟨R, 0, none⟩) lR).trans hR
      have e1 := (hSw.cell (p := ⟨Y, 1, none⟩) lY).trans y1
      have e2 := (hSw.cell (p := ⟨Y, 2, none⟩) lY).trans y2
      have e3 := (hSw.cell (p := ⟨g, k, none⟩) lg).trans hg
      have lR' : R < w'.heap.size := Nat.lt_of_lt_of_le lR hSw.size
      have lY' : Y < w'.heap.size := Nat.lt_of_lt_of_le lY hSw.size
      have lg' : g < w'.heap.size := Nat.lt_of_lt_of_le lg hSw.size
      clear hHeld hSw
      go_simp
      first | done | omega
    simp only [Act.put, zl0, zl1, zl2, zl3, zl4, zl5]
    refine wpAnyZ_last (i := 12) (by kernel_rfl) rfl (by kernel_rfl) (fun K' hK => ?_)
    go_simp
    refine hK.out _ _ ?_
    clear hK K'
    try simp only [Act.put, zl3, zl4, zl5]
    refine wpAnyZ_done (by kernel_rfl) ?_ _
    clear hHeld
    go_wp2_with fail
    go_end0
    refine ⟨rfl, ?_, (HM.out.drew).setCell (p := ⟨g, k, none⟩) (.inl rfl) _⟩
    refine (HO0.out.drew.set k (.int .i64 (f k))).congr (fun i hi => ?_)
    by_cases e : i = k
    · subst e
      rw [if_pos rfl]
      exact val_int (by unfold updF; rw [if_pos rfl]; omega)
    · rw [if_neg e]
      exact val_int (by unfold updF; rw [if_neg e])
end Go.Proofs.YtkbbapefgifagaaGreatDoor
/-
Two controllers: lease.Alive.
-/
namespace Go.Proofs.YtkbbapefgifagaaGreatDoor
open Go.RowKit Go.Shelf
set_option linter.unusedVariables false
set_option linter.unusedSimpArgs false
attribute [local go_sem] Oper.semAt_some
/-- How much each charger may still draw. -/
def alvF (l : List Lse) : Nat → Int := l.foldl (fun f x => updF f x.chg.toNat x.amp) (fun _ => 0)
theorem alvF_snoc (l : List Lse) (x : Lse) : alvF (l ++ [x]) = updF (alvF l) x.chg.toNat x.amp := by unfold alvF; rw [List.foldl_append]; rfl
def lsF (x : Lse) : Nat → Value := fun i => (encLse x)[i]?.getD undef
theorem Own.lse (w : World) (x : Lse) : Own (w.alloc (.cells #[.int .i64 x.num, .int .i64 x.chg, .int .i64 x.amp, .int .i64 x.frm, .int .i64 x.tck] 96)) w.heap.size 96 5 (lsF x) :=
  Own.newAt _ 96 _ _ rfl (n := 5) rfl (fun i hi => by match i, hi with | 0, _ => rfl | 1, _ => rfl | 2, _ => rfl | 3, _ => rfl | 4, _ => rfl)
/-- The loop over the leases that may be alive. -/
theorem range_leases {aL : Option Addr} {nL cL : Nat} {ls : List Lse} {tick : Int} (HN : Hid (ls.length = nL)) (HO : Hid (LsOk ls)) (HFT : Hid (∀ x ∈ ls, x.frm ≤ tick)) {g : Operand} {p : Tmp} {assign body : Code} {Q : Exit → Act → World → Prop} {a : Act} {w : World} (b1 b2 B : Nat) (hA : ∀ a, aL = some a → ls ≠ [] → a.block < B)
    (hg : a.eval g = .func (.func 54) #[] #[.pointer (some ⟨b1, 0, none⟩), .pointer (some ⟨b2, 0, none⟩)]) (h1 : w.cell? ⟨b1, 0, none⟩ = some (.slice aL nL cL)) (h2 : w.cell? ⟨b2, 0, none⟩ = some (.int .i64 tick)) (hR : Rd 5 encLse w aL ls) (hB : B ≤ w.heap.size)
    (I : List (LsAt ls) → World → Prop) (hI : ∀ pre W W', I pre W → Nc w.heap.size W W' → I pre W') (h0 : I [] w) (Ax : LsAt ls → Act → World → Prop) (hAx : ∀ x a' W W', Ax x a' W → Nc w.heap.size W W' → Ax x a' W')
    (hassign : ∀ (l : Nat) (pre : List (LsAt ls)) (x : LsAt ls) (W : World) (K : Act → World → Prop), I pre W → (∀ a' W', KeepsFrom w.heap.size W W' → KpL B b1 b2 W W' → I pre W' → Ax x a' W' → K a' W') → assign.wpIn (Fence.wide.inRound l) 3 Tryz.prog (Exit.then K (fun _ _ _ => False)) { tmps := a.tmps.setIfInBounds p (.agg #[.int .i64 x.1.num, .int .i64 x.1.chg, .int .i64 x.1.amp, .int .i64 x.1.frm, .int .i64 x.1.tck]), defers := [] } W)
    (hbody : ∀ (l : Nat) (pre : List (LsAt ls)) (x : LsAt ls) (a' : Act) (W : World), I pre W → Ax x a' W → pre.length < (exL tick ls).length → body.wpIn (Fence.wide.inRound l) 3 Tryz.prog (ownPostG w.heap.size (KpL B b1 b2) I (fun _ _ _ => False) (pre ++ [x]) W) a' W)
    (hdone : ∀ (D : Nat) (ys : List (LsAt ls)) (W : World), w.heap.size ≤ D → ys.map (·.1) = exL tick ls → I ys W → W.heap[D]? = some (.deferred (some [])) → Q .normal { a with defers := { target := .collected D, args := #[] } :: a.defers } W) :
    (Code.rangeFunc g #[p] assign body).wp Tryz.prog Q a w := by
  have l1 := World.block_lt_of_cell? w _ h1
  have l2 := World.block_lt_of_cell? w _ h2
  dsimp only at l1 l2
  refine (wpIn_wide (n := 5)).1 ?_
  refine wpIn_rangeFunc_ownH (F := Fence.wide) (α := LsAt ls) rfl (by omega) (gf := 54) (lb := #[.pointer (some ⟨b1, 0, none⟩), .pointer (some ⟨b2, 0, none⟩)]) hg trivial (enters_of Tryz.func54 (by kernel_rfl) rfl)
    (encs := fun x => #[.agg #[.int .i64 x.1.num, .int .i64 x.1.chg, .int .i64 x.1.amp, .int .i64 x.1.frm, .int .i64 x.1.tck]]) (Kp := KpL B b1 b2) (S := fun (ys : List (LsAt ls)) => ys.map (·.1) = exL tick ls) (Sp := fun (ys : List (LsAt ls)) => List.IsPrefix (ys.map (fun (x : LsAt ls) => x.1)) (exL tick ls)) (N := (exL tick ls).length) (w0 := w)
    (fun l J Jx W' hW' hJ _ hY h0 => leSeq1_in 4 (by omega) l b1 b2 B aL nL cL ls tick HN HO HFT hA J Jx W' hJ hY ((hW'.cell (p := ⟨b1, 0, none⟩) l1).trans h1) ((hW'.cell (p := ⟨b2, 0, none⟩) l2).trans h2) (hR.keep hW') h0)
    ?hKt ?hKb (Below.refl _ _) (fun _ => rfl) I (fun _ _ _ => False) ?hI (fun _ _ _ _ _ h _ _ => h) h0 Ax ?hAx ?assign ?body ?done (fun _ _ _ _ _ _ h _ => h.elim)
  case hKt => exact fun h1 h2 => ⟨h1.bel.trans h2.bel, h2.s1.trans h1.s1, h2.s2.trans h1.s2⟩
  case hKb =>
    intro W' l o o' hl ho' _ _
    exact ⟨⟨rfl, rfl, rfl, by simp, fun k hk => World.putObj_heap_other (by omega)⟩, World.putObj_heap_other (by omega), World.putObj_heap_other (by omega)⟩
  case hI => exact fun pre W1 W2 row h hg hr => hI pre W1 W2 h ⟨row, hg, hr⟩
  case hAx => exact fun x a' _ W1 W2 row h hg hr => hAx x a' W1 W2 h ⟨row, hg, hr⟩
  case assign =>
    intro l pre x W1 K hi hK
    have ht : (#[p].zip #[Value.agg #[.int .i64 x.1.num, .int .i64 x.1.chg, .int .i64 x.1.amp, .int .i64 x.1.frm, .int .i64 x.1.tck]]).foldl (fun t (p, v) => t.setIfInBounds p v) a.tmps = a.tmps.setIfInBounds p (.agg #[.int .i64 x.1.num, .int .i64 x.1.chg, .int .i64 x.1.amp, .int .i64 x.1.frm, .int .i64 x.1.tck]) := by simp
    rw [ht]
    exact hassign l pre x W1 K hi hK
  case body =>
    intro l pre x a' W1 hl hlr hi hx hlen
    exact hbody l pre x a' W1 hi hx hlen
  case done => exact fun D ys W1 hD hS hi hdf => hdone D ys W1 hD hS hi hdf
theorem nc_size {B : Nat} {W W' : World} (h : Nc B W W') : W.heap.size ≤ W'.heap.size := by
  obtain ⟨row, hg, _⟩ := h
  exact hg.size
theorem keepsFrom_lowQ2 {M : Nat → Prop} {W W' : World} (h : Mod M W W') (B : Nat) (hM : ∀ k, M k → k < B) : KeepsFrom B W W' :=
  ⟨h.size, fun q o hq ho hoc => by rw [h.block q (Array.getElem?_eq_some_iff.1 ho).1 (fun hm => by have := hM q hm; omega)]; exact ho⟩
theorem taken_belowQ2 {B B' : Nat} {W W' : World} (hT : Taken B W W') (hB : B' ≤ B) : Below B' W W' :=
  ⟨hT.1, hT.2.1, hT.2.2.1, by rw [hT.2.2.2.1]; exact Nat.le_refl _, fun k hk => hT.2.2.2.2.1 k (by omega)⟩
theorem taken_modQ2 {B : Nat} {W W' : World} (hT : Taken B W W') : Mod (fun j => B ≤ j) W W' := Mod.of_below (taken_belowQ2 hT (Nat.le_refl _))
theorem rd_ltT {α : Type} {sz : Nat} {enc : α → List Value} {w : World} {A : Option Addr} {xs : List α} (h : Rd sz enc w A xs) (h0 : xs ≠ []) : ∀ a, A = some a → a.block < w.heap.size := by
  intro a ha
  obtain ⟨b, off, x, hA, hb, _⟩ := h.at_ (List.length_pos_iff.2 h0)
  rw [ha] at hA
  injection hA with hA
  subst hA
  exact hb
/-- What Alive does. -/
def AvPost (g : Nat → Int) (n : Nat) (w : World) (e : Ending) (w' : World) : Prop :=
  ∃ A, e = .returned (.tuple #[.slice (some ⟨A, 0, none⟩) n n, .int .i64 0]) ∧ w.heap.size ≤ A ∧ Own w' A 3 n (fun i => .int .i64 (g i)) ∧ Below w.heap.size w w'
def AvA (R C g : Nat) (x : Lse) (a' : Act) (W : World) : Prop := ∃ Y u0 u1 u2 u3 u4 u5 u6 u7 u8 u9 u13 u14 u15 u16 u17 u18 u19 u20 u21 u22 u23 u24 u25 u26 u27 u28 u29 u30 u31 u32 u33 u34 u35 u36 u37 u38 u39 u40 u41 u42 u43 u44 u45 u46 u47, a' = ⟨List.toArray (u0 :: u1 :: u2 :: u3 :: u4 :: u5 :: u6 :: u7 :: u8 :: u9 :: (.pointer (some ⟨R, 0, none⟩)) :: (.pointer (some ⟨C, 0, none⟩)) :: (.pointer (some ⟨Y, 0, none⟩)) :: u13 :: u14 :: u15 :: u16 :: u17 :: u18 :: u19 :: u20 :: u21 :: u22 :: u23 :: u24 :: u25 :: u26 :: u27 :: u28 :: u29 :: u30 :: u31 :: u32 :: u33 :: u34 :: u35 :: u36 :: u37 :: u38 :: u39 :: u40 :: u41 :: u42 :: u43 :: u44 :: u45 :: u46 :: u47 :: []), []⟩ ∧ Own W Y 96 5 (lsF x) ∧ g < Y
theorem mk_ints (n : Nat) (h : n ≤ 1000000) (W : World) : ∃ W', (Instr.makeSlice 30 (.int .i64 n) (.int .i64 n)).run Tryz.prog W = .ok (.slice (some ⟨W.heap.size, 0, none⟩) n n) W' ∧ Own W' W.heap.size 3 n (fun _ => .int .i64 0) ∧ Below W.heap.size W W' ∧ W'.heap.size = W.heap.size + 1 := by
  refine ⟨_, mk_row 30 3 _ 1 8 Tryz.underlying30 appInfoNum (n : Int) (by omega) (by omega) (by omega) W, ?_, (Below.refl _ W).alloc (Nat.le_refl _) _, by simp⟩
  have h : Own (W.alloc (.cells (madeCells (Value.int .i64 0).cells n) 3)) W.heap.size 3 n (fun _ => .int .i64 0) := (Own.made W 3 #[.int .i64 0] n).congr (fun i _ => by simp [Nat.mod_one])
  simpa using h
set_option maxRecDepth 100000 in
set_option maxHeartbeats 8000000 in
theorem leAlive_ok (aL : Option Addr) (nL cL : Nat) (ls : List Lse) (n : Nat) (tick : Int) (w : World) (HX : Hid (Rd 5 encLse w aL ls)) (HN : Hid (ls.length = nL)) (HO : Hid (LsOk ls)) (HFT : Hid (∀ x ∈ ls, x.frm ≤ tick)) (HCG : Hid (∀ x ∈ ls, x.chg < (n : Int))) (hn : n ≤ 16) (ht0 : 0 ≤ tick) (ht1 : tick ≤ 1100000) :
    Calls Tryz.prog 13 #[.slice aL nL cL, .int .i64 (n : Nat), .int .i64 tick] w (AvPost (alvF (exL tick ls)) n w) := by
  have hn64 : nL ≤ 64 := by rw [← HN.out]; exact HO.out.len
  refine (callsIn_wide (n := 5)).1 ?_
  refine callsIn_of_wp_marks Tryz.func13 rfl trivial ?_ rfl
  refine wpIn_wide.2 ?_
  simp only [Tryz.ntmps13, List.size_toArray, List.length_cons, List.length_nil, Nat.reduceAdd, Nat.reduceSub, Array.replicate_succ, Array.replicate_zero, List.push_toArray, List.append_toArray, List.nil_append, List.cons_append]
  go_wp2_with fail
  refine (leValid_ok aL nL cL ls w HX HN HO).mono ?_
  rintro e w1 ⟨rfl, hb1⟩
  have HB := Lib.hid hb1
  clear hb1
  go_wp2_with (go_at_call 32; refine (leIn_ok _ _ _ _ (by omega) (by omega)).mono ?_; rintro e w' ⟨rfl, hw⟩; have hw := hw.symm; subst hw)
  go_loopg [28] nL (fun g1 v28 wr => ∃ i : Nat, v28 = .int .i64 i ∧ i ≤ nL ∧ nL - i ≤ g1 ∧ Hid (Below w.heap.size w wr))
  case atStart => exact ⟨0, by go_num, by omega, by omega, HB⟩
  case round =>
    clear HB
    obtain ⟨i, rfl, hi, hg1, HB⟩ := hrel
    by_cases hlt : i < nL
    · have hltz : (i : Int) < (nL : Int) := by omega
      obtain ⟨bb, off, x, hA, hlb0, hgx, c0, c1, c2, c3, c4⟩ := rdLse_at (HX.out.keep HB.out) (show i < ls.length by rw [HN.out]; exact hlt)
      have hcg := HCG.out x (List.mem_of_getElem? hgx)
      have hcz : ¬ (n : Int) ≤ x.chg := by omega
      obtain ⟨w2, hw1⟩ : ∃ W, W = wr.alloc (.cells #[.int .i64 x.num, .int .i64 x.chg, .int .i64 x.amp, .int .i64 x.frm, .int .i64 x.tck] 96) := ⟨_, rfl⟩
      obtain ⟨Y, hY⟩ : ∃ Y, Y = wr.heap.size := ⟨_, rfl⟩
      have hb1 : Below wr.heap.size wr w2 := by rw [hw1]; exact (Below.refl _ _).alloc (Nat.le_refl _) _
      have HY : Hid (LseM wr w2 Y x) := Lib.hid (by rw [hw1, hY]; exact LseM.box (Below.refl _ _))
      have HB := Lib.hid (below_then HB.out hb1)
      have HW1 := Lib.hid (And.intro hw1.symm hY.symm)
      clear hw1 hY hb1
      have HAA := Lib.hid hA
      subst hA
      clear hgx
      go_upto_region 6 with (fail)
      rw [HW1.out.1, HW1.out.2]
      clear HW1 c0 c1 c2 c3 c4
      obtain ⟨y0, y1, y2, y3, y4⟩ : w2.cell? ⟨Y, 0, none⟩ = some (.int .i64 x.num) ∧ w2.cell? ⟨Y, 1, none⟩ = some (.int .i64 x.chg) ∧ w2.cell? ⟨Y, 2, none⟩ = some (.int .i64 x.amp) ∧ w2.cell? ⟨Y, 3, none⟩ = some (.int .i64 x.frm) ∧ w2.cell? ⟨Y, 4, none⟩ = some (.int .i64 x.tck) := ⟨HY.out.k0, HY.out.k1, HY.out.k2, HY.out.k3, HY.out.k4⟩
      have hlY : Y < w2.heap.size := World.block_lt_of_cell? w2 _ y0
      go_wp2_with fail
      go_roundg (nL - (i + 1))
      case measure => omega
      case rel => exact ⟨i + 1, by go_num, by omega, by omega, HB⟩
    · have hltz : ¬ (i : Int) < (nL : Int) := by omega
      obtain ⟨w4, hmk, ho4, hb4, hs4⟩ := mk_ints n (by omega) wr
      obtain ⟨g, hg⟩ : ∃ g, g = wr.heap.size := ⟨_, rfl⟩
      rw [← hg] at hmk ho4
      obtain ⟨w5, hw5⟩ : ∃ W, W = w4.alloc (.cells #[.slice (some ⟨g, 0, none⟩) n n] 30) := ⟨_, rfl⟩
      obtain ⟨R, hR⟩ : ∃ g, g = w4.heap.size := ⟨_, rfl⟩
      obtain ⟨w6, hw6⟩ : ∃ W, W = w5.alloc (.cells #[.func (.func 33) #[] #[.pointer (some ⟨R, 0, none⟩)]] 108) := ⟨_, rfl⟩
      obtain ⟨C, hC⟩ : ∃ g, g = w5.heap.size := ⟨_, rfl⟩
      have hb5 : Below w4.heap.size w4 w5 := by rw [hw5]; exact (Below.refl _ _).alloc (Nat.le_refl _) _
      have hb6 : Below w5.heap.size w5 w6 := by rw [hw6]; exact (Below.refl _ _).alloc (Nat.le_refl _) _
      have hs5 : w5.heap.size = w4.heap.size + 1 := by rw [hw5]; simp
      have hs6 : w6.heap.size = w5.heap.size + 1 := by rw [hw6]; simp
      have r5 : w5.cell? ⟨R, 0, none⟩ = some (.slice (some ⟨g, 0, none⟩) n n) := by rw [hw5, hR]; go_simp
      have r6 := (hb6.cell (p := ⟨R, 0, none⟩) (zb r5)).trans r5
      have k6 : w6.cell? ⟨C, 0, none⟩ = some (.func (.func 33) #[] #[.pointer (some ⟨R, 0, none⟩)]) := by rw [hw6, hC]; go_simp
      have HOG := Lib.hid ((ho4.keep hb5 ho4.lt).keep hb6 (Nat.lt_of_lt_of_le ho4.lt hb5.size))
      have HB6 := Lib.hid (below_then (below_then (below_then HB.out hb4) hb5) hb6)
      have HSZ : Hid (w.heap.size ≤ g ∧ R = g + 1 ∧ C = g + 2 ∧ w6.heap.size = g + 3) := Lib.hid (by have := HB.out.size; omega)
      have HRC := Lib.hid (And.intro r6 k6)
      have HW6 : Hid (w6 = (w4.alloc (.cells #[.slice (some ⟨g, 0, none⟩) n n] 30)).alloc (.cells #[.func (.func 33) #[] #[.pointer (some ⟨R, 0, none⟩)]] 108) ∧ R = w4.heap.size ∧ C = R + 1) := Lib.hid ⟨by rw [hw6, hw5], hR, by rw [hC, hs5, hR]⟩
      clear hg hb4 hb5 hb6 hs4 hs5 hs6 ho4 r5 r6 k6 hw5 hw6 hR hC HB
      go_upto_region 11 with (fail)
      try simp only [World.size_alloc]
      rw [← HW6.out.2.1, ← HW6.out.1, ← HW6.out.2.2]
      clear HW6 hmk
      go_wp2_with fail
      refine (leSeq_any aL nL cL tick w6).mono ?_
      rintro e w7 ⟨rfl, hw7⟩
      have hb7 : Below w6.heap.size w6 w7 := by rw [hw7]; exact ((Below.refl _ _).alloc (Nat.le_refl _) _).alloc (by simp) _
      have z1 : w7.cell? ⟨w6.heap.size, 0, none⟩ = some (.slice aL nL cL) := by rw [hw7]; go_simp
      have z2 : w7.cell? ⟨w6.heap.size + 1, 0, none⟩ = some (.int .i64 tick) := by rw [hw7]; go_simp
      have HB7 := Lib.hid (below_then HB6.out hb7)
      have HOG := Lib.hid (HOG.out.keep hb7 HOG.out.lt)
      have hs7 : w7.heap.size = g + 5 := by rw [hw7]; simp; have := HSZ.out; omega
      have HRC := Lib.hid (And.intro ((hb7.cell (p := ⟨R, 0, none⟩) (zb HRC.out.1)).trans HRC.out.1) ((hb7.cell (p := ⟨C, 0, none⟩) (zb HRC.out.2)).trans HRC.out.2))
      have h63 : w6.heap.size = g + 3 := HSZ.out.2.2.2
      rw [h63] at z1 z2 ⊢
      have HS7 : Hid (w7.heap.size = g + 5 ∧ w.heap.size ≤ g ∧ R = g + 1 ∧ C = g + 2) := Lib.hid ⟨hs7, HSZ.out.1, HSZ.out.2.1, HSZ.out.2.2.1⟩
      clear hw7 hb7 hs7 h63 HSZ HB6
      go_wp2_with fail
      refine range_leases HN HO HFT (g := .tmp 42) (p := 43) (g + 3) (g + 3 + 1) w.heap.size (fun a ha hne => (rd_ltT HX.out hne a ha)) rfl z1 z2 (HX.out.keep HB7.out) HB7.out.size (fun pre W' => Own W' g 3 n (fun i => .int .i64 (alvF (pre.map (·.1)) i)) ∧ Below w.heap.size w W' ∧ W'.cell? ⟨R, 0, none⟩ = some (.slice (some ⟨g, 0, none⟩) n n) ∧ W'.cell? ⟨C, 0, none⟩ = some (.func (.func 33) #[] #[.pointer (some ⟨R, 0, none⟩)]) ∧ g + 5 ≤ W'.heap.size) ?hI ?h0 (fun x a' W' => AvA R C g x.1 a' W') ?hAx ?assign ?body ?done
      case hI => exact fun pre W W' h hn => ⟨h.1.nc hn, below_nc h.2.1 (Nat.le_refl _) hn HB7.out.size, cell_nc1 h.2.2.1 hn, cell_nc1 h.2.2.2.1 hn, Nat.le_trans h.2.2.2.2 (nc_size hn)⟩
      case h0 => exact ⟨HOG.out, HB7.out, HRC.out.1, HRC.out.2, by rw [HS7.out.1]; omega⟩
      case hAx =>
        rintro x a' W W' ⟨Y, u0, u1, u2, u3, u4, u5, u6, u7, u8, u9, u13, u14, u15, u16, u17, u18, u19, u20, u21, u22, u23, u24, u25, u26, u27, u28, u29, u30, u31, u32, u33, u34, u35, u36, u37, u38, u39, u40, u41, u42, u43, u44, u45, u46, u47, rfl, HOY, hgY⟩ hn
        exact ⟨Y, _, _, _, _, _, _, _, _, _, _, _, _, _, _, _, _, _, _, _, _, _, _, _, _, _, _, _, _, _, _, _, _, _, _, _, _, _, _, _, _, _, _, _, _, _, rfl, HOY.nc hn, hgY⟩
      case assign =>
        intro l pre x W1 K hi hK
        have HI := Lib.hid hi
        have HKK := Lib.hid hK
        clear hi hK
        gi_wp2
        refine HKK.out _ _ (keepsFrom_alloc _ _ _) ⟨(Below.refl _ W1).alloc HI.out.2.1.size _, Below.heap_alloc _ _ _ ?_, Below.heap_alloc _ _ _ ?_⟩ ⟨HI.out.1.alloc _, HI.out.2.1.alloc HI.out.2.1.size _, ?_, ?_, by have := HI.out.2.2.2.2; simp; omega⟩ ?_
        · have := HI.out.2.2.2.2; omega
        · have := HI.out.2.2.2.2; omega
        · exact (Below.cell ((Below.refl _ W1).alloc (Nat.le_refl _) _) (zb HI.out.2.2.1)).trans HI.out.2.2.1
        · exact (Below.cell ((Below.refl _ W1).alloc (Nat.le_refl _) _) (zb HI.out.2.2.2.1)).trans HI.out.2.2.2.1
        · exact ⟨_, _, _, _, _, _, _, _, _, _, _, _, _, _, _, _, _, _, _, _, _, _, _, _, _, _, _, _, _, _, _, _, _, _, _, _, _, _, _, _, _, _, _, _, _, _, rfl, Own.lse _ _, HI.out.1.lt⟩
      case body =>
        rintro l pre x a' W2 ⟨ho, hbw, hr, hc, hz⟩ ⟨Y, u0, u1, u2, u3, u4, u5, u6, u7, u8, u9, u13, u14, u15, u16, u17, u18, u19, u20, u21, u22, u23, u24, u25, u26, u27, u28, u29, u30, u31, u32, u33, u34, u35, u36, u37, u38, u39, u40, u41, u42, u43, u44, u45, u46, u47, rfl, HOY, hgY⟩ hlen
        obtain ⟨k, hk⟩ : ∃ k : Nat, x.1.chg = (k : Int) := ⟨x.1.chg.toNat, by have := (HO.out.ok x.1 x.2).c1; omega⟩
        have hkn : k < n := by have := HCG.out x.1 x.2; omega
        have y0 : W2.cell? ⟨Y, 0, none⟩ = some (.int .i64 x.1.num) := HOY.cell (i := 0) (by omega)
        have y1 : W2.cell? ⟨Y, 1, none⟩ = some (.int .i64 (k : Nat)) := (HOY.cell (i := 1) (by omega)).trans (by show some (Value.int .i64 x.1.chg) = _; rw [hk])
        have y2 : W2.cell? ⟨Y, 2, none⟩ = some (.int .i64 x.1.amp) := HOY.cell (i := 2) (by omega)
        have y3 : W2.cell? ⟨Y, 3, none⟩ = some (.int .i64 x.1.frm) := HOY.cell (i := 3) (by omega)
        have y4 : W2.cell? ⟨Y, 4, none⟩ = some (.int .i64 x.1.tck) := HOY.cell (i := 4) (by omega)
        have hYl : Y < W2.heap.size := HOY.lt
        have hCl := zb hc
        dsimp only at hCl
        have HK := Lib.hid (leKeep_any g n n R k (alvF (pre.map (·.1))) x.1.num x.1.amp x.1.frm x.1.tck W2 hkn hr (Lib.hid ho))
        have HII := Lib.hid (And.intro hbw (And.intro hr (And.intro hc hz)))
        have HSN : Hid (alvF ((pre ++ [x]).map (·.1)) = updF (alvF (pre.map (·.1))) k x.1.amp) := Lib.hid (by rw [List.map_append, List.map_singleton, alvF_snoc, hk]; rfl)
        have hgl : Hid (g < W2.heap.size) := Lib.hid ho.lt
        clear ho hbw hr hz hk hkn HOY hgY hlen
        gi_wp2
        refine ⟨trivial, CallsIn.inRound l (callsIn_wide.2 (HK.out.mono ?_))⟩
        rintro e W3 ⟨rfl, ho3, hm3⟩
        have HP : Hid (KeepsFrom w7.heap.size W2 W3 ∧ KpL w.heap.size (g + 3) (g + 3 + 1) W2 W3 ∧ (Own W3 g 3 n (fun i => .int .i64 (alvF ((pre ++ [x]).map (·.1)) i)) ∧ Below w.heap.size w W3 ∧ W3.cell? ⟨R, 0, none⟩ = some (.slice (some ⟨g, 0, none⟩) n n) ∧ W3.cell? ⟨C, 0, none⟩ = some (.func (.func 33) #[] #[.pointer (some ⟨R, 0, none⟩)]) ∧ g + 5 ≤ W3.heap.size)) := Lib.hid (by
          obtain ⟨hbw, hr, hc, hz⟩ := HII.out
          have h7 := HS7.out
          have hb := hm3.below (B := w.heap.size) hbw.size (fun j _ e => by omega)
          refine ⟨keepsFrom_lowQ2 hm3 _ (fun j e => by omega), ⟨hb, hm3.block _ (by omega) (by omega), hm3.block _ (by omega) (by omega)⟩, by rw [HSN.out]; exact ho3, hbw.trans hb, (hm3.cell (zb hr) (by show ¬ R = g; omega)).trans hr, (hm3.cell (zb hc) (by show ¬ C = g; omega)).trans hc, Nat.le_trans hz hm3.size⟩)
        clear ho3 hm3 hc y0 y1 y2 y3 y4 hYl hCl HII HSN HK
        gi_wp2
        exact HP.out
      case done =>
        intro D ys W4 hD hS hm hdf
        obtain ⟨ho, hbw, hr, hc, hz⟩ := hm
        rw [hS] at ho
        have HMK : Hid (Marks w7.heap.size W4 [{ target := .collected D, args := #[] }]) := Lib.hid ⟨[D], rfl, by simp, fun D' hD' => by
          have e : D' = D := by simpa using hD'
          subst e
          exact ⟨by omega, (Array.getElem?_eq_some_iff.1 hdf).1, hdf⟩⟩
        have HF := Lib.hid (And.intro ho hbw)
        have hrl := zb hr
        dsimp only at hrl
        clear ho hbw hc hdf hS hz
        go_wp2_with fail
        refine leaves_marks (B := w7.heap.size) _ _ HMK.out (fun W3 hT => ?_)
        have h7 := HS7.out
        refine ⟨_, results_tmp2 (t := 6) (u := 7) (by kernel_rfl) _ _ _, g, rfl, h7.2.1, ?_, HF.out.2.trans (taken_belowQ2 hT (by omega))⟩
        exact HF.out.1.mod (taken_modQ2 hT) (by omega)
end Go.Proofs.YtkbbapefgifagaaGreatDoor
/-
Two controllers: copies of rows of any size, cuts of slices, what a share is.
-/
namespace Go.Proofs.YtkbbapefgifagaaGreatDoor
open Go.RowKit
set_option linter.unusedVariables false
set_option linter.unusedSimpArgs false
theorem run_copy_rowS {P : Program} (w : World) (dT sT ty elem : TypeId) (sz g o dLen dCap : Nat) (a : Addr) (sLen sCap n : Nat) (cur : Array Value) (t : TypeId) (cs : List Value)
    (hu : P.underlying dT = some (.slice elem)) (hs : (P.info? elem).map (·.size) = some sz)
    (hg : w.heap[g]? = some (.cells cur t (0, 0))) (hn : n = Nat.min sLen dLen) (hlen : cs.length = n * sz)
    (hsrc : ∀ j v, cs[j]? = some v → w.cell? (a.add j) = some v) (hfit : o + cs.length ≤ cur.size) (h1 : ∀ v ∈ cs, v.oneCell' = true) :
    (Builtin.copy_ #[dT, sT] ty #[.slice (some ⟨g, o, none⟩) dLen dCap, .slice (some a) sLen sCap]).run P w =
      .ok (goInt n) (w.setRow g (cur.toList.take o ++ cs ++ cur.toList.drop (o + cs.length)).toArray) := by
  have hl := run_loadCells_list (P := P) w a cs hsrc
  have hst := run_storeCells_at P g o t cs 0 cur w hg (by simpa using hfit) h1
  cases hq : P.info? elem with
  | none => simp [hq] at hs
  | some i =>
    have hi : i.size = sz := by simpa [hq] using hs
    simp [Builtin.copy_, run_underlying hu, Builtin.lenOf, Builtin.firstCells, sizeOf, typeInfo, hq, hi, ← hn, ← hlen, hl, hst]
theorem run_copy_zero {P : Program} (w : World) (dT sT ty elem : TypeId) (sz : Nat) (d a : Option Addr) (dLen dCap sCap : Nat) (hu : P.underlying dT = some (.slice elem)) (hs : (P.info? elem).map (·.size) = some sz) :
    (Builtin.copy_ #[dT, sT] ty #[.slice d dLen dCap, .slice a 0 sCap]).run P w = .ok (goInt 0) w := by
  cases hq : P.info? elem with
  | none => simp [hq] at hs
  | some i =>
    have hi : i.size = sz := by simpa [hq] using hs
    have hl : ∀ b : Addr, (loadCells b 0).run P w = .ok #[] w := fun b => by
      have := run_loadCells_list (P := P) w b [] (fun j v h => by simp at h)
      simpa using this
    have hst : ∀ b : Addr, (storeCells b []).run P w = .ok () w := fun b => rfl
    cases d <;> cases a <;> simp [Builtin.copy_, run_underlying hu, Builtin.lenOf, Builtin.firstCells, sizeOf, typeInfo, hq, hi, hl, hst]
/-- copy(dst, src), as many rows as src has, into a row of the call's own. -/
theorem copy_rows {P : Program} {α : Type} {sz : Nat} {enc : α → List Value} (W : World) (dT sT ty elem t : TypeId) (g o N dLen dCap n sCap : Nat) (d A : Option Addr) (xs : List α) {f : Nat → Value}
    (hu : P.underlying dT = some (.slice elem)) (hs : (P.info? elem).map (·.size) = some sz) (hsz : ∀ x, (enc x).length = sz) (hone : ∀ x u, u ∈ enc x → u.oneCell' = true) (h0 : 0 < sz)
    (hR : Rd sz enc W A xs) (hN : xs.length = n) (hd : 0 < n → d = some ⟨g, o, none⟩) (hle : n ≤ dLen) (ho : Own W g t N f) (hfit : o + n * sz ≤ N) :
    ∃ W1, (Builtin.copy_ #[dT, sT] ty #[.slice d dLen dCap, .slice A n sCap]).run P W = .ok (.int .i64 n) W1 ∧ Own W1 g t N (fun i => if o ≤ i ∧ i < o + n * sz then (xs.flatMap enc)[i - o]?.getD undef else f i) ∧ Mod (fun k => k = g) W W1 := by
  rcases Nat.eq_zero_or_pos n with hn0 | hn0
  · subst hn0
    exact ⟨W, run_copy_zero W dT sT ty elem sz d A dLen dCap sCap hu hs, ho.congr (fun i hi => by rw [if_neg (by omega)]), Mod.refl _ _⟩
  · obtain rfl := hd hn0
    obtain ⟨cur, hcur, hcz, hcc⟩ := ho
    obtain ⟨b, off, rfl, hbl, hc⟩ := hR (by omega)
    have hlen : (xs.flatMap enc).length = n * sz := by rw [flatR_len hsz, hN]
    have hrun := run_copy_rowS (P := P) W dT sT ty elem sz g o dLen dCap ⟨b, off, none⟩ n sCap n cur t (xs.flatMap enc) hu hs hcur (by have : Nat.min n dLen = n := Nat.min_eq_left hle; exact this.symm) hlen (fun j v hv => by
      obtain ⟨k, i, x, hx, hi, hv2, hj⟩ : ∃ k i x, xs[k]? = some x ∧ i < sz ∧ (enc x)[i]? = some v ∧ j = k * sz + i := by
        have hjl : j < n * sz := by rw [← hlen]; exact (List.getElem?_eq_some_iff.1 hv).1
        have hk : j / sz < xs.length := by rw [hN]; exact (Nat.div_lt_iff_lt_mul h0).2 hjl
        have hx := List.getElem?_eq_getElem hk
        have hi : j % sz < sz := Nat.mod_lt _ h0
        have hi' : j % sz < (enc (xs[j / sz]'hk)).length := by rw [hsz]; exact hi
        obtain ⟨u, hu⟩ : ∃ u, (enc (xs[j / sz]'hk))[j % sz]? = some u := ⟨_, List.getElem?_eq_getElem hi'⟩
        have h2 := flatR_at hsz xs (j / sz) (j % sz) _ u hx hu
        have hj : j / sz * sz + j % sz = j := by rw [Nat.mul_comm]; exact Nat.div_add_mod j sz
        rw [hj, hv] at h2
        injection h2 with h2
        subst h2
        exact ⟨j / sz, j % sz, _, hx, hi, hu, hj.symm⟩
      have := hc k x hx i v hv2
      rw [hj]
      by_cases e : k * sz + i = 0
      · rw [e]
        have e1 : k * sz = 0 := by omega
        have e2 : i = 0 := by omega
        simpa [Addr.add, e1, e2] using this
      · have hne : ¬ (k * sz = 0 ∧ i = 0) := by omega
        simpa [Addr.add, hne, Nat.add_assoc] using this) (by rw [hlen]; omega) (fun v hv => by
      obtain ⟨x, _, hv2⟩ := List.mem_flatMap.1 hv
      exact hone x v hv2)
    rw [hlen] at hrun
    refine ⟨_, hrun, ⟨_, setRow_heap W g _ _ t _ hcur, ?_, fun i hi => ?_⟩, ⟨rfl, rfl, rfl, by simp [World.setRow], fun k hk hn => setRow_other W g k _ hn⟩⟩
    · simp [hlen, hcz]; omega
    · show _ = some (if o ≤ i ∧ i < o + n * sz then (xs.flatMap enc)[i - o]?.getD undef else f i)
      rw [List.getElem?_toArray, List.append_assoc]
      by_cases h1 : i < o
      · rw [if_neg (by omega), List.getElem?_append_left (by simp [hcz]; omega), List.getElem?_take_of_lt h1]
        have := hcc i hi
        simpa using this
      · rw [List.getElem?_append_right (by simp [hcz]; omega)]
        have e : i - (cur.toList.take o).length = i - o := by simp [hcz]; omega
        rw [e]
        by_cases h2 : i < o + n * sz
        · rw [if_pos ⟨by omega, h2⟩, List.getElem?_append_left (by rw [hlen]; omega)]
          have : i - o < (xs.flatMap enc).length := by rw [hlen]; omega
          rw [List.getElem?_eq_getElem this]
          rfl
        · rw [if_neg (by omega), List.getElem?_append_right (by rw [hlen]; omega), hlen, List.getElem?_drop]
          have := hcc i hi
          rw [show o + n * sz + (i - o - n * sz) = i by omega]
          simpa using this
end Go.Proofs.YtkbbapefgifagaaGreatDoor
