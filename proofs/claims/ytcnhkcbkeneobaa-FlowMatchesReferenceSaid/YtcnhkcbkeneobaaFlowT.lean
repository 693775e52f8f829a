/-
The law FlowProof, walked.
-/
import Derived.Test.YtcnhkcbkeneobaaFlowR
import Derived.Test.YtcnhkcbkeneobaaOpenG
namespace Go.Proofs.Ytcnhkcbkeneobaa
open Go.RowKit
theorem fMost_cases (nodes s t : Int) (c N : Nat) (A : Option Addr) (es : List GEdge) (w : World) (hR : Rd 3 encE w A es) (HN : Hid (es.length = N)) (HE : Hid (okEnds nodes es s t = true)) :
    Calls Try.prog 14 #[.agg #[.int .i64 nodes, .slice A N c], .int .i64 s, .int .i64 t] w fun e w' => ∃ gF gs fl side, e = .returned (.tuple #[.int .i64 (net es fl s), .slice (some ⟨gF, 0, none⟩) N N, .slice (some ⟨gs, 0, none⟩) nodes.toNat nodes.toNat, .int .i64 0]) ∧
      Rd 1 encI w' (some ⟨gF, 0, none⟩) fl ∧ Rd 1 encB w' (some ⟨gs, 0, none⟩) side ∧ IsFlow nodes es s t fl ∧ IsCut nodes s t side ∧ capac es side = net es fl s ∧ Below w.heap.size w w' := by
  obtain ⟨hok, e1, e2, e3, e4, e5⟩ := okEnds_iff.1 HE.out
  obtain ⟨n1, n2, hl⟩ := (okG_iff.1 hok).1
  obtain ⟨nn, rfl⟩ : ∃ nn : Nat, nodes = nn := ⟨nodes.toNat, by omega⟩
  obtain ⟨s', rfl⟩ : ∃ nn : Nat, s = nn := ⟨s.toNat, by omega⟩
  obtain ⟨t', rfl⟩ : ∃ nn : Nat, t = nn := ⟨t.toNat, by omega⟩
  refine (fMost_ok nn c N s' t' A es w hR HN HE).mono ?_
  rintro e w1 ⟨gF, gs, fl, side, rfl, o1, o2, hf, hc, hcap, hb, _, _⟩
  refine ⟨gF, gs, fl, side, rfl, o1.rd (by rw [Nat.mul_one, hf.len, HN.out]; exact Nat.le_refl _) (fun _ => rfl) ?_, o2.rd (by have := hc.len; omega) (fun _ => rfl) ?_, hf, hc, hcap, hb⟩
  · intro k x hx j v hv
    have hj : j = 0 := by have := (List.getElem?_eq_some_iff.1 hv).1; simp [encI] at this; exact this
    subst hj
    simp only [encI, List.getElem?_cons_zero, Option.some.injEq] at hv
    rw [← hv, Nat.mul_one, Nat.add_zero]
    unfold fAt
    rw [hx]
    rfl
  · intro k x hx j v hv
    have hj : j = 0 := by have := (List.getElem?_eq_some_iff.1 hv).1; simp [encB] at this; exact this
    subst hj
    simp only [encB, List.getElem?_cons_zero, Option.some.injEq] at hv
    rw [← hv, Nat.mul_one, Nat.add_zero, hx]
    rfl
set_option maxRecDepth 100000 in
set_option maxHeartbeats 2000000 in
theorem walk_FlowProof (nodes : Int) (_ : wf64 nodes) (A : Option Addr) (c N : Nat) (es : List GEdge) {w : World} (hR : Rd 3 encE w A es) (HN : Hid (es.length = N)) (hl : N ≤ 9223372036854775807) (_ : ∀ e, e ∈ es → wfE e) (s : Int) (_ : wf64 s) (t : Int) (_ : wf64 t) :
    Calls Try.prog 4 #[.agg #[.int .i64 nodes, .slice A N c], .int .i64 s, .int .i64 t] w fun e w' => e = .returned (.bool true) ∧ Below w.heap.size w w' := by
  have a0 : Below w.heap.size w (w.alloc (.cells #[.int .i64 nodes, .slice A N c] 24)) := (Below.refl _ w).alloc (Nat.le_refl _) _
  go_enter Try.func4, Try.ntmps4
  go_wp2_with fail
  refine (lfHead_any _).mono ?_
  rintro e w1 ⟨rfl, hb1⟩
  have k0 : w1.cell? ⟨w.heap.size, 0, none⟩ = some (.int .i64 nodes) := (hb1.cell (p := ⟨w.heap.size, 0, none⟩) (by simp)).trans (by go_simp)
  have k1 : w1.cell? ⟨w.heap.size, 1, none⟩ = some (.slice A N c) := (hb1.cell (p := ⟨w.heap.size, 1, none⟩) (by simp)).trans (by go_simp)
  have b1 : Below w.heap.size w w1 := below_then a0 hb1
  have l1 : w.heap.size < w1.heap.size := World.block_lt_of_cell? w1 _ k0
  have r1 := hR.keep b1
  clear hb1 a0
  go_wp2_with fail
  refine (rfEnds_any nodes s t A c N es w1 r1 HN.out hl).mono ?_
  rintro e w2 ⟨rfl, hb2⟩
  have b2 : Below w.heap.size w w2 := below_then b1 hb2
  cases hE : okEnds nodes es s t
  · go_wp2_with fail
    go_ret
    exact ⟨rfl, b2⟩
  · have HE := Lib.hid hE
    obtain ⟨hok, e1, e2, e3, e4, e5⟩ := okEnds_iff.1 hE
    obtain ⟨n1, n2, hl2⟩ := (okG_iff.1 hok).1
    rw [HN.out] at hl2
    have k02 : w2.cell? ⟨w.heap.size, 0, none⟩ = some (.int .i64 nodes) := (hb2.cell (p := ⟨w.heap.size, 0, none⟩) l1).trans k0
    have k12 : w2.cell? ⟨w.heap.size, 1, none⟩ = some (.slice A N c) := (hb2.cell (p := ⟨w.heap.size, 1, none⟩) l1).trans k1
    have l2 : w.heap.size < w2.heap.size := World.block_lt_of_cell? w2 _ k02
    have r2 := r1.keep hb2
    clear hE k0 k1 hb2
    go_wp2_with fail
    refine (fMost_cases nodes s t c N A es w2 r2 HN HE).mono ?_
    rintro e w3 ⟨gF, gs, fl, side, rfl, o13, o23, hf, hc, hcap, hb3⟩
    have k03 : w3.cell? ⟨w.heap.size, 0, none⟩ = some (.int .i64 nodes) := (hb3.cell (p := ⟨w.heap.size, 0, none⟩) l2).trans k02
    have k13 : w3.cell? ⟨w.heap.size, 1, none⟩ = some (.slice A N c) := (hb3.cell (p := ⟨w.heap.size, 1, none⟩) l2).trans k12
    have b3 : Below w.heap.size w w3 := below_then b2 hb3
    have hfl := hf.len
    have hfs := hc.len
    clear k02 k12 hb3
    have l3 : w.heap.size < w3.heap.size := World.block_lt_of_cell? w3 _ k03
    have r3 := hR.keep b3
    have hck : Hid (checkB nodes es s t fl side = true) := by
      unfold Hid checkB
      rw [HE.out, flowB_iff.2 hf, cutB_iff.2 hc, hcap]
      simp
    have hfit : ∀ i, i < N → 0 ≤ fAt fl i ∧ fAt fl i ≤ 1000000 := by
      intro i hi
      have h1 := hf.fits i (by rw [HN.out]; exact hi)
      have h2 := okG_at hok (i := i) (by rw [HN.out]; exact hi)
      omega
    have hM : side.length = nodes.toNat := by omega
    have hM2 : ((nodes.toNat : Nat) : Int) = nodes := by omega
    go_wp2_with fail
    refine (rfFlow_any nodes s t A _ c N N N es fl w3 r3 HN.out hok o13 (by rw [hfl, HN.out]) hl).mono ?_
    rintro e w4 ⟨rfl, hb4⟩
    rw [flowB_iff.2 hf]
    have k04 : w4.cell? ⟨w.heap.size, 0, none⟩ = some (.int .i64 nodes) := (hb4.cell (p := ⟨w.heap.size, 0, none⟩) l3).trans k03
    have k14 : w4.cell? ⟨w.heap.size, 1, none⟩ = some (.slice A N c) := (hb4.cell (p := ⟨w.heap.size, 1, none⟩) l3).trans k13
    have b4 : Below w.heap.size w w4 := below_then b3 hb4
    have l4 : w.heap.size < w4.heap.size := World.block_lt_of_cell? w4 _ k04
    have r4 := r3.keep hb4
    have o14 := o13.keep hb4
    have o24 := o23.keep hb4
    clear k03 k13 hb4 l3 b3 r3 o13 o23
    go_wp2_with fail
    refine (rfCut_any nodes s t A _ c nodes.toNat N nodes.toNat side w4 ⟨e1, e2⟩ ⟨e3, e4⟩ o24 hM).mono ?_
    rintro e w5 ⟨rfl, hb5⟩
    rw [cutB_iff.2 hc]
    have k05 : w5.cell? ⟨w.heap.size, 0, none⟩ = some (.int .i64 nodes) := (hb5.cell (p := ⟨w.heap.size, 0, none⟩) l4).trans k04
    have k15 : w5.cell? ⟨w.heap.size, 1, none⟩ = some (.slice A N c) := (hb5.cell (p := ⟨w.heap.size, 1, none⟩) l4).trans k14
    have b5 : Below w.heap.size w w5 := below_then b4 hb5
    have l5 : w.heap.size < w5.heap.size := World.block_lt_of_cell? w5 _ k05
    have r5 := r4.keep hb5
    have o15 := o14.keep hb5
    have o25 := o24.keep hb5
    clear k04 k14 hb5 l4 b4 r4 o14 o24
    go_wp2_with fail
    refine (rfAmount_any nodes s A _ c N N es fl w5 r5 HN.out hl2 o15 (by rw [hfl, HN.out]) hfit).mono ?_
    rintro e w6 ⟨rfl, hb6⟩
    have k06 : w6.cell? ⟨w.heap.size, 0, none⟩ = some (.int .i64 nodes) := (hb6.cell (p := ⟨w.heap.size, 0, none⟩) l5).trans k05
    have k16 : w6.cell? ⟨w.heap.size, 1, none⟩ = some (.slice A N c) := (hb6.cell (p := ⟨w.heap.size, 1, none⟩) l5).trans k15
    have b6 : Below w.heap.size w w6 := below_then b5 hb6
    have l6 : w.heap.size < w6.heap.size := World.block_lt_of_cell? w6 _ k06
    have r6 := r5.keep hb6
    have o16 := o15.keep hb6
    have o26 := o25.keep hb6
    clear k05 k15 hb6 l5 b5 r5 o15 o25
    go_wp2_with fail
    refine (rfCapacity_any nodes A _ c nodes.toNat N nodes.toNat es side w6 r6 HN.out hok o26 hM hM2).mono ?_
    rintro e w7 ⟨rfl, hb7⟩
    rw [hcap]
    have k07 : w7.cell? ⟨w.heap.size, 0, none⟩ = some (.int .i64 nodes) := (hb7.cell (p := ⟨w.heap.size, 0, none⟩) l6).trans k06
    have k17 : w7.cell? ⟨w.heap.size, 1, none⟩ = some (.slice A N c) := (hb7.cell (p := ⟨w.heap.size, 1, none⟩) l6).trans k16
    have b7 : Below w.heap.size w w7 := below_then b6 hb7
    have l7 : w.heap.size < w7.heap.size := World.block_lt_of_cell? w7 _ k07
    have r7 := r6.keep hb7
    have o17 := o16.keep hb7
    have o27 := o26.keep hb7
    clear k06 k16 hb7 l6 b6 r6 o16 o26
    go_wp2_with fail
    refine (fCheck_any nodes s t A _ _ c N nodes.toNat N N nodes.toNat es fl side w7 r7 HN.out hl o17 (by rw [hfl, HN.out]) hl o27 hM (by omega)).mono ?_
    rintro e w8 ⟨rfl, hb8⟩
    rw [hck.out]
    have k08 : w8.cell? ⟨w.heap.size, 0, none⟩ = some (.int .i64 nodes) := (hb8.cell (p := ⟨w.heap.size, 0, none⟩) l7).trans k07
    have k18 : w8.cell? ⟨w.heap.size, 1, none⟩ = some (.slice A N c) := (hb8.cell (p := ⟨w.heap.size, 1, none⟩) l7).trans k17
    have b8 : Below w.heap.size w w8 := below_then b7 hb8
    have l8 : w.heap.size < w8.heap.size := World.block_lt_of_cell? w8 _ k08
    have r8 := r7.keep hb8
    have o18 := o17.keep hb8
    have o28 := o27.keep hb8
    clear k07 k17 hb8 l7 b7 r7 o17 o27
    go_wp2_with fail
    go_ret
    exact ⟨rfl, b8⟩
end Go.Proofs.Ytcnhkcbkeneobaa
