/-
Contract of the program's Check: it answers what the reference's definition says.
-/
import Derived.Test.YtcnhkcbkeneobaaFlowE
import Derived.BigRegion
namespace Go.Proofs.Ytcnhkcbkeneobaa
open Go.RowKit

theorem infoInt : (Try.prog.info? 3).map (fun i => (i.zero, i.size, i.bytes)) = some (some (.int .i64 0), 1, 8) := by kernel_rfl

theorem checkB_false_of {nodes : Int} {es : List GEdge} {s t : Int} {fl : List Int} {side : List Bool} (h : ¬ (okEnds nodes es s t = true ∧ IsFlow nodes es s t fl ∧ IsCut nodes s t side ∧ net es fl s = capac es side)) : checkB nodes es s t fl side = false := by
  rw [← Bool.not_eq_true]
  intro hc
  apply h
  simp only [checkB, Bool.and_eq_true, decide_eq_true_eq] at hc
  exact ⟨hc.1, flowB_iff.1 hc.2.1.1, cutB_iff.1 hc.2.1.2, hc.2.2⟩
theorem checkB_iff {nodes : Int} {es : List GEdge} {s t : Int} {fl : List Int} {side : List Bool} : checkB nodes es s t fl side = true ↔ (okEnds nodes es s t = true ∧ IsFlow nodes es s t fl ∧ IsCut nodes s t side ∧ net es fl s = capac es side) := by
  simp only [checkB, Bool.and_eq_true, decide_eq_true_eq, flowB_iff, cutB_iff]
  constructor
  · rintro ⟨a, ⟨b, c⟩, d⟩; exact ⟨a, b, c, d⟩
  · rintro ⟨a, b, c, d⟩; exact ⟨a, ⟨b, c⟩, d⟩

theorem cell_other {w : World} {p q : Addr} (h : q.block ≠ p.block) (u : Value) : (w.setCell p u).cell? q = w.cell? q := World.cell?_of_block (Below.heap_setCell w p u q.block h)
theorem if_val {c : Prop} [Decidable c] (x y : Int) : (if c then Value.int .i64 x else Value.int .i64 y) = Value.int .i64 (if c then x else y) := by split <;> rfl

set_option maxHeartbeats 3200000 in
set_option maxRecDepth 100000 in
theorem fCheck_loop (nodes s t : Int) (A A2 A3 : Option Addr) (c c2 c3 N K : Nat) (es : List GEdge) (fl : List Int) (side : List Bool) (w : World) (hR : Rd 3 encE w A es) (HN : Hid (es.length = N))
    (hR2 : Rd 1 encI w A2 fl) (HN2 : Hid (fl.length = N)) (hR3 : Rd 1 encB w A3 side) (HN3 : Hid (side.length = K)) (HK : Hid ((K : Int) = nodes)) (hE : Hid (okEnds nodes es s t = true))
    (hs1 : Hid (sAt side s = true)) (ht1 : Hid (sAt side t = false)) :
    Calls Try.prog 17 #[.agg #[.int .i64 nodes, .slice A N c], .int .i64 s, .int .i64 t, .slice A2 N c2, .slice A3 K c3] w fun e w' => e = .returned (.bool (checkB nodes es s t fl side)) ∧ Below w.heap.size w w' := by
  obtain ⟨hg, s1, s2, t1, t2, hst⟩ := okEnds_iff.1 hE.out
  obtain ⟨n1, n2, hl⟩ := (okG_iff.1 hg).1
  rw [HN.out] at hl
  have Hg := Lib.hid hg; clear hg
  have Hst := Lib.hid hst; clear hst
  have hK := HK.out
  have hKn : nodes.toNat = K := by omega
  have HKn := Lib.hid hKn; clear hKn
  have hb1 : ((N : Int) != (N : Int)) = false := by simp
  have hb2 : ((K : Int) != nodes) = false := by simpa using hK
  have sK : s < (K : Int) := by omega
  have tK : t < (K : Int) := by omega
  have sK' : s.toNat < K := by omega
  clear hK
  have hmk := mk_row (P := Try.prog) 25 3 (.int .i64 0) 1 8 Try.underlying25 infoInt nodes (by omega) (by omega) (by omega)
  rw [HKn.out] at hmk
  obtain ⟨b3, off3, rfl, hbl3, q0⟩ := hR3.bool (k := s.toNat) (by rw [HN3.out]; exact sK')
  obtain ⟨_, _, e2, _, q1⟩ := hR3.bool (k := t.toNat) (by rw [HN3.out]; omega)
  cases e2
  rw [← sAt_get] at q0 q1
  rw [hs1.out] at q0
  rw [ht1.out] at q1
  go_enter Try.func17, Try.ntmps17
  go_wp2_with fail
  refine (fEnds_any nodes s t A c N es _ (hR.keep ((Below.refl _ w).alloc (Nat.le_refl _) _)) HN.out (by omega)).mono ?_
  rintro e w1 ⟨rfl, hb⟩
  rw [hE.out]
  have hbw : Below w.heap.size w w1 := below_then ((Below.refl _ w).alloc (Nat.le_refl _) _) hb
  have hc0 : w1.cell? ⟨w.heap.size, 0, none⟩ = some (.int .i64 nodes) := (hb.cell (p := ⟨w.heap.size, 0, none⟩) (by simp)).trans (by go_simp)
  have hc1 : w1.cell? ⟨w.heap.size, 1, none⟩ = some (.slice A N c) := (hb.cell (p := ⟨w.heap.size, 1, none⟩) (by simp)).trans (by go_simp)
  have hz : w.heap.size < w1.heap.size := by have := hb.size; simp at this; omega
  replace q0 := (hbw.cell (p := ⟨b3, _, none⟩) hbl3).trans q0
  replace q1 := (hbw.cell (p := ⟨b3, _, none⟩) hbl3).trans q1
  replace hR := hR.keep hbw
  replace hR2 := hR2.keep hbw
  replace hR3 := hR3.keep hbw
  clear hb
  have hOm : Own (w1.alloc (.cells (madeCells #[.int .i64 0] K) 3)) w1.heap.size 3 K (fun u => .int .i64 (S 0 (term es fl u))) := (Own.made w1 3 #[.int .i64 0] K).congr (fun i _ => by simp [Nat.mod_one, S])
  have HOm := Lib.hid hOm; clear hOm
  go_wp2
  go_loopw [12, 56] (fun v i wr => ∃ k : Nat, k ≤ N ∧ i = .int .i64 k ∧ v = .int .i64 (S k (fun i => pick (crossing side (eAt es i) = true) (eAt es i).cap)) ∧ (∀ i, i < k → 0 ≤ fAt fl i ∧ fAt fl i ≤ (eAt es i).cap) ∧ Own wr w1.heap.size 3 K (fun u => .int .i64 (S k (term es fl u))) ∧ Below w1.heap.size w1 wr) (fun _ i _ => N - (intOf i).toNat)
  case atStart => exact ⟨0, Nat.zero_le _, rfl, rfl, fun i hi => absurd hi (by omega), HOm.out, (Below.refl _ _).alloc (Nat.le_refl _) _⟩
  case round =>
    obtain ⟨k, hk, rfl, rfl, hfit, hO, hb⟩ := hrel
    have Hfit := Lib.hid hfit; clear hfit
    have hbw2 : Below w.heap.size w wr := below_then hbw hb
    have hzr : w1.heap.size < wr.heap.size := hO.lt
    have hR' := hR.keep hb
    have hR2' := hR2.keep hb
    have hR3' := hR3.keep hb
    clear q0 q1 hR HOm
    by_cases hlt : k < N
    · obtain ⟨b, off, e, rfl, hbl, he, g0, g1, g2⟩ := rdE_at hR' (k := k) (by rw [HN.out]; exact hlt)
      obtain ⟨b2, off2, rfl, hbl2, p0⟩ := hR2.int (k := k) (by rw [HN2.out]; exact hlt)
      have pw := Lib.hid p0
      replace p0 := (hb.cell (p := ⟨b2, _, none⟩) hbl2).trans p0
      have hbl2' : b2 < wr.heap.size := by omega
      have ok := okG_at Hg.out (i := k) (by rw [HN.out]; exact hlt)
      have Hcap : Hid ((eAt es k).cap = e.cap) := by unfold Hid eAt; rw [he]; rfl
      unfold eAt at ok
      rw [he] at ok
      obtain ⟨o1, o2, o3, o4, o5, o6⟩ := ok
      simp only [Option.getD_some] at o1 o2 o3 o4 o5 o6
      have st := fun u => term_step (fl := fl) (u := u) he rfl
      have stc := cap_step (side := side) he
      have Hx : Hid (fAt fl k = fl[k]?.getD 0) := rfl
      generalize fl[k]?.getD 0 = x at *
      have Hst := Lib.hid st; clear st
      have Hstc := Lib.hid stc; clear stc he
      by_cases x0 : x < 0
      · have hd : decide (x < 0) = true := by simpa using x0
        go_wp2_with fail
        go_quiet (fail)
        go_wp2
        go_ret
        refine ⟨ret_bool (checkB_false_of ?_).symm, below_drewN (hbw2.alloc (by omega) _) _⟩
        rintro ⟨_, ⟨_, hf, _⟩, _⟩
        have := hf k (by rw [HN.out]; exact hlt)
        rw [Hx.out] at this
        omega
      · have hd : decide (x < 0) = false := by simpa using x0
        by_cases x1 : x ≤ e.cap
        · have hd1 : decide (e.cap < x) = false := by simpa using x1
          have Hfit2 : Hid (∀ i, i < k + 1 → 0 ≤ fAt fl i ∧ fAt fl i ≤ (eAt es i).cap) := by
            intro i hi
            by_cases hik : i = k
            · subst hik; rw [Hx.out, Hcap.out]; omega
            · exact Hfit.out i (by omega)
          have Hb : Hid (∀ u : Int, -512000000 ≤ S k (term es fl u) ∧ S k (term es fl u) ≤ 512000000) := by
            intro u
            refine S_term_bound (N := k) (Nat.le_refl _) (by omega) (fun i hi => ?_)
            have a := Hfit.out i hi
            have b := okG_at Hg.out (i := i) (by rw [HN.out]; omega)
            omega
          have hK := HK.out
          have fK : e.frm.toNat < K := by omega
          have tK2 : e.to.toNat < K := by omega
          have fK' : e.frm < (K : Int) := by omega
          have tK' : e.to < (K : Int) := by omega
          clear hK
          go_wp2_with fail
          go_quiet (fail)
          go_wp2_with fail
          refine wp_world (fun W => Own W w1.heap.size 3 K (fun u => .int .i64 (S k (term es fl u))) ∧ W.cell? ⟨wr.heap.size, 0, none⟩ = some (.int .i64 e.frm) ∧ W.cell? ⟨wr.heap.size, 1, none⟩ = some (.int .i64 e.to) ∧ W.cell? ⟨wr.heap.size, 2, none⟩ = some (.int .i64 e.cap) ∧ Below w1.heap.size w1 W ∧ wr.heap.size < W.heap.size) ?_ ?_
          · exact ⟨(hO.alloc _).drewN _, by go_simp, by go_simp, by go_simp, below_drewN (hb.alloc (by omega) _) _, by simp⟩
          clear p0
          rintro W2 ⟨hO2, m0, m1, m2, hb2, hz2⟩
          have m3 := (hb2.cell (p := ⟨b2, _, none⟩) hbl2).trans pw.out
          have Hy1 : Hid (W2.cell? ⟨w1.heap.size, e.frm.toNat, none⟩ = some (.int .i64 (S k (term es fl e.frm)))) := by
            have := hO2.cell fK
            rwa [show ((e.frm.toNat : Nat) : Int) = e.frm by omega] at this
          obtain ⟨y1b, y1c⟩ := Hb.out e.frm
          have y1 := Hy1.out
          have y1f := hO2.frozen e.frm.toNat
          generalize hS1 : S k (term es fl e.frm) = Y1 at *
          have HS1 := Lib.hid hS1; clear hS1 Hy1
          go_region
          go_wp2_with fail
          refine wp_world (fun W => Own W w1.heap.size 3 K (fun u => .int .i64 (S k (term es fl u) + pick (e.frm = u) x)) ∧ W.cell? ⟨wr.heap.size, 0, none⟩ = some (.int .i64 e.frm) ∧ W.cell? ⟨wr.heap.size, 1, none⟩ = some (.int .i64 e.to) ∧ W.cell? ⟨wr.heap.size, 2, none⟩ = some (.int .i64 e.cap) ∧ Below w1.heap.size w1 W ∧ wr.heap.size < W.heap.size) ?_ ?_
          · refine ⟨((hO2.set e.frm.toNat (.int .i64 (Y1 + x))).congr (fun i hi => ?_)).drew, (cell_other (by simp; omega) _).trans m0, (cell_other (by simp; omega) _).trans m1, (cell_other (by simp; omega) _).trans m2, (hb2.setCell (p := ⟨w1.heap.size, _, none⟩) (Nat.le_refl _) _).drew, by simpa [World.setCell] using hz2⟩
            by_cases hie : i = e.frm.toNat
            · rw [if_pos hie, pick_pos (by omega), ← HS1.out, show (i : Int) = e.frm by omega]
            · rw [if_neg hie, pick_neg (by omega), Int.add_zero]
          clear hO2 m0 m1 m2 m3 hb2 hz2 y1 y1f HS1 y1b y1c
          rintro W3 ⟨hO3, m0, m1, m2, hb3, hz3⟩
          have m3 := (hb3.cell (p := ⟨b2, _, none⟩) hbl2).trans pw.out
          have Hy1 : Hid (W3.cell? ⟨w1.heap.size, e.to.toNat, none⟩ = some (.int .i64 (S k (term es fl e.to) + pick (e.frm = e.to) x))) := by
            have := hO3.cell tK2
            rwa [show ((e.to.toNat : Nat) : Int) = e.to by omega] at this
          obtain ⟨y1b, y1c⟩ := Hb.out e.to
          have y1d : 0 ≤ pick (e.frm = e.to) x ∧ pick (e.frm = e.to) x ≤ 1000000 := by unfold pick; split <;> omega
          obtain ⟨y1d, y1e⟩ := y1d
          have y1 := Hy1.out
          have y1f := hO3.frozen e.to.toNat
          generalize hS1 : S k (term es fl e.to) = Y1 at *
          generalize hS2 : pick (e.frm = e.to) x = Y2 at *
          have HS1 := Lib.hid hS1; clear hS1 Hy1
          have HS2 := Lib.hid hS2; clear hS2
          go_region
          go_step
          go_step
          refine wp_world (fun W => Own W w1.heap.size 3 K (fun u => .int .i64 (S (k + 1) (term es fl u))) ∧ W.cell? ⟨wr.heap.size, 0, none⟩ = some (.int .i64 e.frm) ∧ W.cell? ⟨wr.heap.size, 1, none⟩ = some (.int .i64 e.to) ∧ W.cell? ⟨wr.heap.size, 2, none⟩ = some (.int .i64 e.cap) ∧ Below w1.heap.size w1 W ∧ wr.heap.size < W.heap.size) ?_ ?_
          · refine ⟨((hO3.set e.to.toNat (.int .i64 (Y1 + Y2 - x))).congr (fun i hi => ?_)).drew, (cell_other (by simp; omega) _).trans m0, (cell_other (by simp; omega) _).trans m1, (cell_other (by simp; omega) _).trans m2, (hb3.setCell (p := ⟨w1.heap.size, _, none⟩) (Nat.le_refl _) _).drew, by simpa [World.setCell] using hz3⟩
            rw [Hst.out]
            by_cases hie : i = e.to.toNat
            · have hi2 : (i : Int) = e.to := by omega
              rw [if_pos hie, hi2, pick_pos (c := e.to = e.to) rfl, ← HS1.out, ← HS2.out]
              exact val_int (by omega)
            · rw [if_neg hie, pick_neg (c := e.to = i) (by omega)]
              exact val_int (by omega)
          clear hO3 m0 m1 m2 m3 hb3 hz3 y1 y1f HS1 y1b y1c HS2 y1d y1e
          rintro W4 ⟨hO4, m0, m1, m2, hb4, hz4⟩
          have hR5 := hR3.keep hb4
          obtain ⟨_, _, e3, _, q0⟩ := hR5.bool (k := e.frm.toNat) (by rw [HN3.out]; exact fK)
          cases e3
          obtain ⟨_, _, e3, _, q1⟩ := hR5.bool (k := e.to.toNat) (by rw [HN3.out]; exact tK2)
          cases e3
          rw [← sAt_get] at q0 q1
          obtain ⟨v1, v2⟩ := cap_bound side (k := k) Hg.out (by rw [HN.out]; exact hk)
          generalize S k (fun i => pick (crossing side (eAt es i) = true) (eAt es i).cap) = v at *
          have Hxx : Hid (crossing side e = (sAt side e.frm && !sAt side e.to)) := rfl
          cases hq1 : sAt side e.frm <;> cases hq2 : sAt side e.to
          all_goals
            rw [hq1] at q0; rw [hq2] at q1
            have Hx2 := Hxx.out
            rw [hq1, hq2] at Hx2
            have Hx3 := Lib.hid Hx2
            clear hq1 hq2 Hxx Hx2
            go_wp2
            go_roundw
            case rel => exact ⟨k + 1, hlt, natcast_succ k, val_int (by rw [Hstc.out, Hx3.out]; unfold pick; simp), Hfit2.out, hO4, hb4⟩
            case measure => simp [intOf]; omega
        · have hd1 : decide (e.cap < x) = true := by simpa using x1
          go_wp2_with fail
          go_quiet (fail)
          go_wp2
          go_ret
          refine ⟨ret_bool (checkB_false_of ?_).symm, below_drewN (hbw2.alloc (by omega) _) _⟩
          rintro ⟨_, ⟨_, hf, _⟩, _⟩
          have := hf k (by rw [HN.out]; exact hlt)
          rw [Hx.out, Hcap.out] at this
          omega
    · obtain rfl : k = N := by omega
      clear hlt
      have Hnet : Hid (∀ u, net es fl u = S k (term es fl u)) := by intro u; unfold net; rw [HN.out]
      have Hcapac : Hid (capac es side = S k (fun i => pick (crossing side (eAt es i) = true) (eAt es i).cap)) := by unfold Hid capac; rw [HN.out]
      generalize S k (fun i => pick (crossing side (eAt es i) = true) (eAt es i).cap) = CP at *
      go_wp2
      obtain ⟨wo, rfl⟩ : ∃ wo : World, wo = wr := ⟨_, rfl⟩
      have hK := HK.out
      go_loop [117] (fun i => ∃ j : Nat, j ≤ K ∧ i = .int .i64 j ∧ (∀ u : Int, 0 ≤ u → u < j → u ≠ s → u ≠ t → net es fl u = 0)) (fun i => K - (intOf i).toNat)
      case atStart => exact ⟨0, by omega, rfl, fun u h0 h1 => by omega⟩
      case round =>
        obtain ⟨j, hj, rfl, hnet⟩ := hrel
        have Hnet2 := Lib.hid hnet; clear hnet
        by_cases hlt : j < K
        · have r1 := hO.cell hlt
          rw [← Hnet.out] at r1
          by_cases hz0 : net es fl j = 0
          · have Hz0 := Lib.hid hz0
            have hz1 : (net es fl j != 0) = false := by simpa using hz0
            clear hz0
            go_wp2
            go_round
            case rel =>
              refine ⟨j + 1, hlt, natcast_succ j, fun u h0 h1 h2 h3 => ?_⟩
              by_cases huj : u = j
              · rw [huj]; exact Hz0.out
              · exact Hnet2.out u h0 (by omega) h2 h3
            case measure => simp [intOf]; omega
          · have Hz0 := Lib.hid hz0
            have hz1 : (net es fl j != 0) = true := by simpa using hz0
            clear hz0
            by_cases js : (j : Int) = s
            · have js' : ((j : Int) != s) = false := by simpa using js
              have Hjs := Lib.hid js; clear js
              go_wp2
              go_round
              case rel => exact ⟨j + 1, hlt, natcast_succ j, fun u h0 h1 h2 h3 => Hnet2.out u h0 (by have := Hjs.out; omega) h2 h3⟩
              case measure => simp [intOf]; omega
            · have js' : ((j : Int) != s) = true := by simpa using js
              have Hjs := Lib.hid js; clear js
              by_cases jt : (j : Int) = t
              · have jt' : ((j : Int) != t) = false := by simpa using jt
                have Hjt := Lib.hid jt; clear jt
                go_wp2
                go_round
                case rel => exact ⟨j + 1, hlt, natcast_succ j, fun u h0 h1 h2 h3 => Hnet2.out u h0 (by have := Hjt.out; omega) h2 h3⟩
                case measure => simp [intOf]; omega
              · have jt' : ((j : Int) != t) = true := by simpa using jt
                have Hjt := Lib.hid jt; clear jt
                go_wp2
                go_ret
                refine ⟨ret_bool (checkB_false_of ?_).symm, hbw2⟩
                rintro ⟨_, ⟨_, _, hf⟩, _⟩
                exact Hz0.out (hf j (by omega) (by omega) Hjs.out Hjt.out)
        · have r1 := hO.cell sK'
          rw [show ((s.toNat : Nat) : Int) = s by omega, ← Hnet.out] at r1
          clear hK
          go_wp2
          go_ret
          refine ⟨ret_bool ?_, hbw2⟩
          rw [Bool.eq_iff_iff, checkB_iff, beq_iff_eq, ← Hcapac.out]
          have hK := HK.out
          constructor
          · intro hh
            exact ⟨hE.out, ⟨by rw [HN.out, HN2.out], fun i hi => Hfit.out i (by rw [HN.out] at hi; exact hi), fun u h0 h1 h2 h3 => Hnet2.out u h0 (by omega) h2 h3⟩, ⟨by rw [HN3.out]; exact hK, hs1.out, ht1.out⟩, hh⟩
          · exact fun hh => hh.2.2.2
end Go.Proofs.Ytcnhkcbkeneobaa
