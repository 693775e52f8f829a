/-
The iterator over the steps from a node, walked.
-/
import Derived.Test.YtgfcnkfmgpakkaaGFlowI
namespace Go.Proofs.Ytgfcnkfmgpakkaa
open Go.RowKit Go.Shelf

theorem wpIn_world {F : Fence} {n : Nat} {P : Program} {c : Code} {Q : Exit → Act → World → Prop} {a : Act} {w : World} (R : World → Prop) (hR : R w) (h : ∀ w', R w' → c.wpIn F n P Q a w') : c.wpIn F n P Q a w := h w hR
theorem inc_at {es : List GEdge} {N u k : Nat} {x : Int} (h : (inc es N u)[k]? = some x) : ∃ i, i < N ∧ x = (i : Int) ∧ ((eAt es i).frm = u ∨ (eAt es i).to = u) := by
  have hm := List.mem_of_getElem? h
  unfold inc at hm
  obtain ⟨i, hi, rfl⟩ := List.mem_map.1 hm
  rw [List.mem_filter] at hi
  exact ⟨i, by simpa using hi.1, rfl, by simpa using hi.2⟩
theorem grown_none {A B : World} (h : Below A.heap.size A B) : A.grownBy B none := ⟨h.os, h.tape, h.output, h.size, fun i hi _ => h.block i hi⟩

theorem stepsOf_take_prefix (es : List GEdge) (fl : List Int) (node : Int) (l : List Int) (k : Nat) : stepsOf es fl node (l.take k) <+: stepsOf es fl node l := by
  refine ⟨stepsOf es fl node (l.drop k), ?_⟩
  unfold stepsOf
  rw [← List.filter_append, ← List.map_append, List.take_append_drop]
theorem stepsOf_take_le (es : List GEdge) (fl : List Int) (node : Int) (l : List Int) (k : Nat) : (stepsOf es fl node (l.take k)).length ≤ (stepsOf es fl node l).length := (stepsOf_take_prefix es fl node l k).length_le
/-- What a round over the steps may not change. -/
structure KpS (B b1 b2 : Nat) (W W' : World) : Prop where
  bel : Below B W W'
  s1 : W'.heap[b1]? = W.heap[b1]?
  s2 : W'.heap[b2]? = W.heap[b2]?

abbrev StepAt (es : List GEdge) (fl : List Int) (node N : Nat) : Type := { s : GStep // GoodStep es fl node N s }

set_option maxRecDepth 100000 in
set_option maxHeartbeats 2000000 in
theorem fSteps1_in (n : Nat) (hn : 1 ≤ n) (l gN gF gA nn N c b1 b2 node : Nat) (SS : List GStep) (A : Option Addr) (es : List GEdge) (fl : List Int) (w0 : World) (hnet : NetRd w0 gN gF gA nn N c A es fl) (hnode : node < nn)
    (hM : stepsOf es fl node (inc es N node) = SS) (J Jx : List (StepAt es fl node N) → World → Prop) (W : World)
    (hJ : AbidesFrom W.heap.size J)
    (hY : ∀ (pre : List (StepAt es fl node N)) (x : StepAt es fl node N) W1, J pre W1 → pre.length < SS.length → YieldAt Fence.wide (n - 1) Try.prog l #[aggS x.1] W1 fun e W' =>
      (e = .returned (.bool true) ∧ J (pre ++ [x]) W' ∧ KpS w0.heap.size b1 b2 W1 W') ∨ (e = .returned (.bool false) ∧ Jx (pre ++ [x]) W'))
    (hW : Below w0.heap.size w0 W) (hb1 : W.cell? ⟨b1, 0, none⟩ = some (.pointer (some ⟨gN, 0, none⟩))) (hb2 : W.cell? ⟨b2, 0, none⟩ = some (.int .i64 node)) (h0 : J [] W) :
    CallsIn Fence.wide n Try.prog 120 #[.func (.yield l) #[] #[], .pointer (some ⟨b1, 0, none⟩), .pointer (some ⟨b2, 0, none⟩)] W fun e W' => (∃ v, e = .returned v) ∧
      ((∃ ys : List (StepAt es fl node N), ys.map (·.1) = SS ∧ J ys W') ∨ (∃ pre : List (StepAt es fl node N), pre.map (·.1) <+: SS ∧ Jx pre W')) := by
  obtain ⟨n0, n1, n2, n3, hfl, hrows, hedges, hlen, hok, hfits⟩ := hnet.keep hW
  obtain ⟨Au, cu, r1, r2⟩ := hnet.rows node hnode
  replace r1 := (hW.cell (World.block_lt_of_cell? w0 _ r1)).trans r1
  obtain ⟨k1, k2, hl⟩ := (okG_iff.1 hok).1
  have hnode' : (node : Int) < (nn : Int) := by omega
  have hll := inc_length es N node
  have Hnet := Lib.hid hnet
  have HY := Lib.hid hY
  have HJ := Lib.hid hJ
  have HM := Lib.hid hM
  have Hlen := Lib.hid hlen
  rw [hlen] at hl
  generalize hLL : (inc es N node).length = LL at *
  have HLL := Lib.hid hLL
  clear hfl hrows hedges hlen hok hfits hnet hY hM hJ hLL
  refine callsIn_of_wp Try.func120 rfl trivial ?_ rfl
  simp only [Try.ntmps120, List.size_toArray, List.length_cons, List.length_nil, Nat.reduceAdd, Nat.reduceSub, Array.replicate_succ, Array.replicate_zero, List.push_toArray, List.append_toArray, List.nil_append, List.cons_append]
  gi_wp2
  gi_region
  gi_wp2
  gi_loopw [16] (fun i wr => ∃ (k : Nat) (pre : List (StepAt es fl node N)), k ≤ LL ∧ i = .int .i64 k ∧ pre.map (·.1) = stepsOf es fl node ((inc es N node).take k) ∧ J pre wr ∧ Below w0.heap.size w0 wr ∧ wr.cell? ⟨b1, 0, none⟩ = some (.pointer (some ⟨gN, 0, none⟩)) ∧ wr.cell? ⟨b2, 0, none⟩ = some (.int .i64 node) ∧ W.heap.size ≤ wr.heap.size) (fun i _ => LL - (intOf i).toNat)
  case atStart => exact ⟨0, [], Nat.zero_le _, rfl, rfl, HJ.out _ _ _ none h0 (grown_none (Below.refl _ _).drew) (fun r e => by cases e), hW.drew, hb1, hb2, Nat.le_refl _⟩
  case round =>
    obtain ⟨k, pre, hk, rfl, hpre, hJp, hbw, hb1', hb2', hsz⟩ := hrel
    have Hpre := Lib.hid hpre; clear hpre n0 n1 n2 n3 r1 hb1 hb2
    obtain ⟨n0, n1, n2, n3, hfl, hrows, hedges, hlen, hok, hfits⟩ := Hnet.out.keep hbw
    by_cases hlt : k < LL
    · obtain ⟨bR, offR, rfl, hbR, x0⟩ := (r2.keep hbw).int (k := k) (by rw [HLL.out]; exact hlt)
      have hkk : (inc es N node)[k]? = some ((inc es N node)[k]'(by rw [HLL.out]; exact hlt)) := List.getElem?_eq_getElem _
      obtain ⟨i, hiN, hxi, hinc⟩ := inc_at hkk
      rw [hxi] at hkk
      rw [hkk] at x0
      simp only [Option.getD_some] at x0
      have Htake : Hid ((inc es N node).take (k + 1) = (inc es N node).take k ++ [(i : Int)]) := take_snoc hkk
      have oke := okG_at hok (i := i) (by rw [hlen]; exact hiN)
      obtain ⟨f1, f2⟩ := hfits i hiN
      have fc := hfl i hiN
      obtain ⟨b, off, e, rfl, hbl, he, g0, g1, g2⟩ := rdE_at hedges (k := i) (by rw [hlen]; exact hiN)
      have Hee : Hid (eAt es i = e) := by unfold Hid eAt; rw [he]; rfl
      rw [Hee.out] at oke f2 hinc
      obtain ⟨o1, o2, o3, o4, o5, o6⟩ := oke
      generalize hff : fAt fl i = f at *
      have Hff := Lib.hid hff
      have Hinc := Lib.hid hinc
      have lN := World.block_lt_of_cell? wr _ n0
      have lF := World.block_lt_of_cell? wr _ fc
      have l1 := World.block_lt_of_cell? wr _ hb1'
      have l2 := World.block_lt_of_cell? wr _ hb2'
      have hiN' : (i : Int) < (N : Int) := by omega
      clear hkk hxi hok hfits hfl hrows hedges he hff hinc
      dsimp only at lN lF l1 l2
      gi_wp2
      by_cases hfn : e.frm = node
      · as_aux_lemma =>
        have hfn' : (e.frm != (node : Int)) = false := by simp [hfn]
        have Hfn := Lib.hid hfn; clear hfn
        gi_region
        go_step
        go_step
        refine wpIn_world (fun W2 => W2.cell? ⟨wr.heap.size + 1, 0, none⟩ = some (.int .i64 i) ∧ W2.cell? ⟨wr.heap.size + 1, 1, none⟩ = some (.int .i64 e.to) ∧ W2.cell? ⟨wr.heap.size + 1, 2, none⟩ = some (.int .i64 (e.cap - f)) ∧ W2.cell? ⟨wr.heap.size + 1, 3, none⟩ = some (.bool true) ∧ Below wr.heap.size wr W2 ∧ W2.cell? ⟨wr.heap.size, 0, none⟩ = some (.int .i64 e.frm) ∧ wr.heap.size + 1 < W2.heap.size) ?_ ?_
        · exact ⟨by go_simp, by go_simp, by go_simp, by go_simp, (((Below.refl _ wr).alloc (Nat.le_refl _) _).alloc (by simp) _).drew, by go_simp, by simp⟩
        rintro W2 ⟨s0, s1, s2, s3, hbW, e0, lW⟩
        have q2 : W2.cell? ⟨b2, 0, none⟩ = some (.int .i64 node) := (hbW.cell (p := ⟨b2, 0, none⟩) l2).trans hb2'
        have q1 : W2.cell? ⟨b1, 0, none⟩ = some (.pointer (some ⟨gN, 0, none⟩)) := (hbW.cell (p := ⟨b1, 0, none⟩) l1).trans hb1'
        have hJ2 : J pre W2 := HJ.out _ _ _ none hJp (grown_none hbW) (fun r e => by cases e)
        have hbw2 : Below w0.heap.size w0 W2 := hbw.trans (hbW.mono hbw.size)
        clear n0 n1 n2 n3 x0 fc g0 g1 g2 lN lF l1 l2 hb1' hb2' hJp hW h0 hlen
        have Hst := Lib.hid (show mkStep es fl node i = ⟨i, e.to, e.cap - f, true⟩ from by unfold mkStep; rw [Hee.out, Hff.out, if_pos Hfn.out])
        by_cases hrm : 0 < e.cap - f
        · as_aux_lemma =>
          have Hgood : Hid (GoodStep es fl node N ⟨i, e.to, e.cap - f, true⟩) := ⟨i, hiN, Hst.out.symm, hrm, by rw [Hee.out]; exact Hinc.out⟩
          have hstep : stepsOf es fl node ((inc es N node).take (k + 1)) = stepsOf es fl node ((inc es N node).take k) ++ [⟨i, e.to, e.cap - f, true⟩] := by
            rw [Htake.out, stepsOf_snoc, Hst.out, if_pos hrm]
          have Hstep := Lib.hid hstep
          have hpl : pre.length < SS.length := by
            have h1 : (stepsOf es fl node ((inc es N node).take (k + 1))).length ≤ SS.length := by rw [← HM.out]; exact stepsOf_take_le _ _ _ _ _
            have h2 := congrArg List.length Hpre.out
            rw [hstep, List.length_append] at h1
            simp at h1 h2
            omega
          clear hstep
          obtain ⟨fn, tmps, assign, body, hy, hR⟩ := HY.out pre ⟨⟨i, e.to, e.cap - f, true⟩, Hgood.out⟩ W2 hJ2 hpl
          dsimp only [aggS] at hy
          gi_wp2
          refine hR.mono ?_
          rintro e' W3 (⟨rfl, hJ3, hk3⟩ | ⟨rfl, hJx3⟩)
          · gi_wp2
            go_roundw
            case rel =>
              refine ⟨k + 1, _, hlt, natcast_succ k, ?_, hJ3, hbw2.trans hk3.bel, ?_, ?_, ?_⟩
              · rw [List.map_append, Hpre.out, Hstep.out]; rfl
              · rw [← q1]; exact World.cell?_of_block hk3.s1
              · rw [← q2]; exact World.cell?_of_block hk3.s2
              · have := hk3.bel.size; have := hbW.size; omega
            case measure => simp [intOf]; omega
          · gi_wp2
            refine bodyPost_ret (results_none rfl _ _ _) rfl ?_
            refine ⟨⟨_, rfl⟩, .inr ⟨_, ?_, hJx3⟩⟩
            rw [List.map_append, Hpre.out, ← HM.out]
            have h1 : stepsOf es fl node ((inc es N node).take (k + 1)) <+: stepsOf es fl node (inc es N node) := stepsOf_take_prefix _ _ _ _ _
            rw [Hstep.out] at h1
            exact h1
        · as_aux_lemma =>
          have hstep : stepsOf es fl node ((inc es N node).take (k + 1)) = stepsOf es fl node ((inc es N node).take k) := by
            rw [Htake.out, stepsOf_snoc, Hst.out, if_neg hrm, List.append_nil]
          have Hstep := Lib.hid hstep; clear hstep
          gi_wp2
          refine ⟨fun _ h => (by cases h), ?_⟩
          gi_wp2
          go_roundw
          case rel => exact ⟨k + 1, pre, hlt, natcast_succ k, by rw [Hpre.out, Hstep.out], hJ2, hbw2, q1, q2, by have := hbW.size; omega⟩
          case measure => simp [intOf]; omega
      · as_aux_lemma =>
        have hfn' : (e.frm != (node : Int)) = true := by simp [hfn]
        have Hfn := Lib.hid hfn; clear hfn
        gi_region
        gi_wp2
        gi_big_region
        go_step
        go_step
        refine wpIn_world (fun W2 => W2.cell? ⟨wr.heap.size + 1, 0, none⟩ = some (.int .i64 i) ∧ W2.cell? ⟨wr.heap.size + 1, 1, none⟩ = some (.int .i64 e.frm) ∧ W2.cell? ⟨wr.heap.size + 1, 2, none⟩ = some (.int .i64 (f)) ∧ W2.cell? ⟨wr.heap.size + 1, 3, none⟩ = some (.bool false) ∧ Below wr.heap.size wr W2 ∧ W2.cell? ⟨wr.heap.size, 0, none⟩ = some (.int .i64 e.frm) ∧ wr.heap.size + 1 < W2.heap.size) ?_ ?_
        · exact ⟨by go_simp, by go_simp, by go_simp, by go_simp, (((Below.refl _ wr).alloc (Nat.le_refl _) _).alloc (by simp) _).drew.drew, by go_simp, by simp⟩
        rintro W2 ⟨s0, s1, s2, s3, hbW, e0, lW⟩
        have q2 : W2.cell? ⟨b2, 0, none⟩ = some (.int .i64 node) := (hbW.cell (p := ⟨b2, 0, none⟩) l2).trans hb2'
        have q1 : W2.cell? ⟨b1, 0, none⟩ = some (.pointer (some ⟨gN, 0, none⟩)) := (hbW.cell (p := ⟨b1, 0, none⟩) l1).trans hb1'
        have hJ2 : J pre W2 := HJ.out _ _ _ none hJp (grown_none hbW) (fun r e => by cases e)
        have hbw2 : Below w0.heap.size w0 W2 := hbw.trans (hbW.mono hbw.size)
        clear n0 n1 n2 n3 x0 fc g0 g1 g2 lN lF l1 l2 hb1' hb2' hJp hW h0 hlen
        have Hst := Lib.hid (show mkStep es fl node i = ⟨i, e.frm, f, false⟩ from by unfold mkStep; rw [Hee.out, Hff.out, if_neg Hfn.out])
        by_cases hrm : 0 < f
        · as_aux_lemma =>
          have Hgood : Hid (GoodStep es fl node N ⟨i, e.frm, f, false⟩) := ⟨i, hiN, Hst.out.symm, hrm, by rw [Hee.out]; exact Hinc.out⟩
          have hstep : stepsOf es fl node ((inc es N node).take (k + 1)) = stepsOf es fl node ((inc es N node).take k) ++ [⟨i, e.frm, f, false⟩] := by
            rw [Htake.out, stepsOf_snoc, Hst.out, if_pos hrm]
          have Hstep := Lib.hid hstep
          have hpl : pre.length < SS.length := by
            have h1 : (stepsOf es fl node ((inc es N node).take (k + 1))).length ≤ SS.length := by rw [← HM.out]; exact stepsOf_take_le _ _ _ _ _
            have h2 := congrArg List.length Hpre.out
            rw [hstep, List.length_append] at h1
            simp at h1 h2
            omega
          clear hstep
          obtain ⟨fn, tmps, assign, body, hy, hR⟩ := HY.out pre ⟨⟨i, e.frm, f, false⟩, Hgood.out⟩ W2 hJ2 hpl
          dsimp only [aggS] at hy
          gi_wp2
          refine hR.mono ?_
          rintro e' W3 (⟨rfl, hJ3, hk3⟩ | ⟨rfl, hJx3⟩)
          · gi_wp2
            go_roundw
            case rel =>
              refine ⟨k + 1, _, hlt, natcast_succ k, ?_, hJ3, hbw2.trans hk3.bel, ?_, ?_, ?_⟩
              · rw [List.map_append, Hpre.out, Hstep.out]; rfl
              · rw [← q1]; exact World.cell?_of_block hk3.s1
              · rw [← q2]; exact World.cell?_of_block hk3.s2
              · have := hk3.bel.size; have := hbW.size; omega
            case measure => simp [intOf]; omega
          · gi_wp2
            refine bodyPost_ret (results_none rfl _ _ _) rfl ?_
            refine ⟨⟨_, rfl⟩, .inr ⟨_, ?_, hJx3⟩⟩
            rw [List.map_append, Hpre.out, ← HM.out]
            have h1 : stepsOf es fl node ((inc es N node).take (k + 1)) <+: stepsOf es fl node (inc es N node) := stepsOf_take_prefix _ _ _ _ _
            rw [Hstep.out] at h1
            exact h1
        · as_aux_lemma =>
          have hstep : stepsOf es fl node ((inc es N node).take (k + 1)) = stepsOf es fl node ((inc es N node).take k) := by
            rw [Htake.out, stepsOf_snoc, Hst.out, if_neg hrm, List.append_nil]
          have Hstep := Lib.hid hstep; clear hstep
          gi_wp2
          refine ⟨fun _ h => (by cases h), ?_⟩
          gi_wp2
          go_roundw
          case rel => exact ⟨k + 1, pre, hlt, natcast_succ k, by rw [Hpre.out, Hstep.out], hJ2, hbw2, q1, q2, by have := hbW.size; omega⟩
          case measure => simp [intOf]; omega
    · gi_wp2
      go_end0
      refine ⟨⟨_, rfl⟩, .inl ⟨pre, ?_, hJp⟩⟩
      rw [Hpre.out, List.take_of_length_le (by rw [HLL.out]; omega), HM.out]
end Go.Proofs.Ytgfcnkfmgpakkaa
