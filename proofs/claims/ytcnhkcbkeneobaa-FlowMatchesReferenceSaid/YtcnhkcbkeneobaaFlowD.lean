/-
Contract of the reference's Flow: it tells whether a list is a flow.
-/
import Derived.Test.YtcnhkcbkeneobaaFlowC
namespace Go.Proofs.Ytcnhkcbkeneobaa
open Go.RowKit

noncomputable def flowB (nodes : Int) (es : List GEdge) (s t : Int) (fl : List Int) : Bool := @decide (IsFlow nodes es s t fl) (Classical.propDecidable _)
theorem flowB_iff {nodes : Int} {es : List GEdge} {s t : Int} {fl : List Int} : flowB nodes es s t fl = true ↔ IsFlow nodes es s t fl := by simp [flowB]
theorem flowB_not {nodes : Int} {es : List GEdge} {s t : Int} {fl : List Int} (h : ¬ IsFlow nodes es s t fl) : flowB nodes es s t fl = false := by simp [flowB, h]

set_option maxHeartbeats 1600000 in
theorem rfFlow_any (nodes s t : Int) (A A2 : Option Addr) (c c2 N M : Nat) (es : List GEdge) (fl : List Int) (w : World) (hR : Rd 3 encE w A es) (hN : es.length = N) (hg : okG nodes es = true)
    (hR2 : Rd 1 encI w A2 fl) (hN2 : fl.length = M) (hMl : M ≤ 9223372036854775807) :
    Calls Try.prog 19 #[.agg #[.int .i64 nodes, .slice A N c], .int .i64 s, .int .i64 t, .slice A2 M c2] w fun e w' => e = .returned (.bool (flowB nodes es s t fl)) ∧ Below w.heap.size w w' := by
  by_cases hMN : M = N
  · subst hMN
    have hl := (okG_iff.1 hg).1.2.2
    obtain ⟨hn1, hn2, _⟩ := (okG_iff.1 hg).1
    rw [hN] at hl
    have HN := Lib.hid hN; clear hN
    have HN2 := Lib.hid hN2; clear hN2
    have Hg := Lib.hid hg; clear hg
    have hne : ((M : Int) != (M : Int)) = false := by simp
    go_enter Try.func19, Try.ntmps19
    go_wp2
    go_loopw [9] (fun i wr => ∃ k : Nat, k ≤ M ∧ i = .int .i64 k ∧ (∀ i, i < k → 0 ≤ fAt fl i ∧ fAt fl i ≤ (eAt es i).cap) ∧ Below (w.heap.size+1) (w.alloc (.cells #[.int .i64 nodes, .slice A M c] 24)) wr) (fun i _ => M - (intOf i).toNat)
    case atStart => exact ⟨0, Nat.zero_le _, rfl, fun i hi => absurd hi (by omega), Below.refl _ _⟩
    case round =>
      obtain ⟨k, hk, rfl, hfit, hb⟩ := hrel
      have Hfit := Lib.hid hfit; clear hfit
      have hR' : Rd 3 encE wr A es := hR.keep1 hb
      have hR2' : Rd 1 encI wr A2 fl := hR2.keep1 hb
      have hbw : Below w.heap.size w wr := ((Below.refl _ w).alloc (Nat.le_refl _) _).trans (hb.mono (by omega))
      have hc0 : wr.cell? ⟨w.heap.size, 0, none⟩ = some (.int .i64 nodes) := (hb.cell (p := ⟨w.heap.size, 0, none⟩) (by simp)).trans (by go_simp)
      have hc1 : wr.cell? ⟨w.heap.size, 1, none⟩ = some (.slice A M c) := (hb.cell (p := ⟨w.heap.size, 1, none⟩) (by simp)).trans (by go_simp)
      have hz : w.heap.size < wr.heap.size := by have := hb.size; simp at this; omega
      by_cases hlt : k < M
      · obtain ⟨b, off, e, rfl, hbl, he, g0, g1, g2⟩ := rdE_at hR' (k := k) (by rw [HN.out]; exact hlt)
        obtain ⟨b2, off2, rfl, hbl2, q0⟩ := hR2'.int (k := k) (by rw [HN2.out]; exact hlt)
        have Hx : Hid (fAt fl k = fl[k]?.getD 0 ∧ (eAt es k).cap = e.cap) := ⟨rfl, by unfold eAt; rw [he]; rfl⟩
        clear he g0 g1
        generalize fl[k]?.getD 0 = x at *
        have hki : (k : Int) < (M : Int) := by omega
        by_cases x0 : x < 0
        · have hd : decide (x < 0) = true := by simpa using x0
          go_wp2_with fail
          go_quiet (fail)
          go_wp2
          go_ret
          refine ⟨ret_bool (flowB_not ?_).symm, below_drewN hbw _⟩
          rintro ⟨_, hf, _⟩
          have := hf k (by rw [HN.out]; exact hlt)
          rw [Hx.out.1] at this
          omega
        · have hd : decide (x < 0) = false := by simpa using x0
          by_cases x1 : x ≤ e.cap
          · have hd1 : decide (e.cap < x) = false := by simpa using x1
            go_wp2_with fail
            go_quiet (fail)
            go_wp2
            go_roundw
            case rel =>
              refine ⟨k + 1, hlt, natcast_succ k, fun i hi => ?_, below_drewN hb _⟩
              by_cases hik : i = k
              · subst hik; rw [Hx.out.1, Hx.out.2]; omega
              · exact Hfit.out i (by omega)
            case measure => simp [intOf]; omega
          · have hd1 : decide (e.cap < x) = true := by simpa using x1
            go_wp2_with fail
            go_quiet (fail)
            go_wp2
            go_ret
            refine ⟨ret_bool (flowB_not ?_).symm, below_drewN hbw _⟩
            rintro ⟨_, hf, _⟩
            have := hf k (by rw [HN.out]; exact hlt)
            rw [Hx.out.1, Hx.out.2] at this
            omega
      · obtain rfl : k = M := by omega
        clear hlt
        go_wp2
        obtain ⟨wo, rfl⟩ : ∃ wo : World, wo = wr := ⟨_, rfl⟩
        go_loopw [10] (fun i wr => ∃ j : Nat, (j : Int) ≤ nodes ∧ i = .int .i64 j ∧ (∀ u : Int, 0 ≤ u → u < j → u ≠ s → u ≠ t → net es fl u = 0) ∧ Below wo.heap.size wo wr) (fun i _ => nodes.toNat - (intOf i).toNat)
        case atStart => exact ⟨0, by omega, rfl, fun u h0 h1 => by omega, Below.refl _ _⟩
        case round =>
          obtain ⟨j, hj, rfl, hnet, hb2⟩ := hrel
          have Hnet := Lib.hid hnet; clear hnet
          have hbw2 : Below w.heap.size w wr := below_then hbw hb2
          have hc0' : wr.cell? ⟨w.heap.size, 0, none⟩ = some (.int .i64 nodes) := (hb2.cell (p := ⟨w.heap.size, 0, none⟩) hz).trans hc0
          have hc1' : wr.cell? ⟨w.heap.size, 1, none⟩ = some (.slice A k c) := (hb2.cell (p := ⟨w.heap.size, 1, none⟩) hz).trans hc1
          have hR3 : Rd 3 encE wr A es := hR'.keep hb2
          have hR4 : Rd 1 encI wr A2 fl := hR2'.keep hb2
          clear hc0 hc1
          by_cases hlt : (j : Int) < nodes
          · by_cases js : (j : Int) = s ∨ (j : Int) = t
            · have Hjs := Lib.hid js; clear js
              rcases Hjs.out with js | js
              · have js' : ((j : Int) != s) = false := by simpa using js
                clear js
                go_wp2
                go_roundw
                case rel => exact ⟨j + 1, by omega, natcast_succ j, fun u h0 h1 h2 h3 => Hnet.out u h0 (by rcases Hjs.out with x | x <;> omega) h2 h3, hb2⟩
                case measure => simp [intOf]; omega
              · have js' : ((j : Int) != t) = false := by simpa using js
                clear js
                by_cases j2 : (j : Int) = s
                · have j2' : ((j : Int) != s) = false := by simpa using j2
                  clear j2
                  go_wp2
                  go_roundw
                  case rel => exact ⟨j + 1, by omega, natcast_succ j, fun u h0 h1 h2 h3 => Hnet.out u h0 (by rcases Hjs.out with x | x <;> omega) h2 h3, hb2⟩
                  case measure => simp [intOf]; omega
                · have j2' : ((j : Int) != s) = true := by simpa using j2
                  clear j2
                  go_wp2
                  go_roundw
                  case rel => exact ⟨j + 1, by omega, natcast_succ j, fun u h0 h1 h2 h3 => Hnet.out u h0 (by rcases Hjs.out with x | x <;> omega) h2 h3, hb2⟩
                  case measure => simp [intOf]; omega
            · have j1 : ((j : Int) != s) = true := by simp; omega
              have j2 : ((j : Int) != t) = true := by simp; omega
              have Hjs := Lib.hid js; clear js
              have Hcap : Hid (∀ i, i < k → 0 ≤ fAt fl i ∧ fAt fl i ≤ 1000000) := by
                intro i hi
                have a := Hfit.out i hi
                have b := okG_at Hg.out (i := i) (by rw [HN.out]; exact hi)
                omega
              go_wp2_with fail
              refine (rfAmount_any nodes j A A2 c c2 k es fl _ hR3 HN.out hl hR4 HN2.out Hcap.out).mono ?_
              rintro e w' ⟨rfl, hb3⟩
              by_cases hz0 : net es fl j = 0
              · have Hz0 := Lib.hid hz0
                have hz1 : (net es fl j != 0) = false := by simpa using hz0
                clear hz0
                go_wp2
                go_roundw
                case rel =>
                  refine ⟨j + 1, by omega, natcast_succ j, fun u h0 h1 h2 h3 => ?_, below_then hb2 hb3⟩
                  by_cases huj : u = j
                  · rw [huj]; exact Hz0.out
                  · exact Hnet.out u h0 (by omega) h2 h3
                case measure => simp [intOf]; omega
              · have Hz0 := Lib.hid hz0
                have hz1 : (net es fl j != 0) = true := by simpa using hz0
                clear hz0
                go_wp2
                go_ret
                refine ⟨ret_bool (flowB_not ?_).symm, below_then hbw2 hb3⟩
                rintro ⟨_, _, hf⟩
                have := Hjs.out
                exact Hz0.out (hf j (by omega) hlt (by omega) (by omega))
          · go_wp2
            go_ret
            refine ⟨ret_bool (flowB_iff.2 ⟨by rw [HN.out, HN2.out], fun i hi => Hfit.out i (by rw [HN.out] at hi; exact hi), fun u h0 h1 h2 h3 => Hnet.out u h0 (by omega) h2 h3⟩).symm, hbw2⟩
  · have hne : ((M : Int) != (N : Int)) = true := by simp; omega
    have Hf : Hid (flowB nodes es s t fl = false) := flowB_not (by rintro ⟨h, _, _⟩; omega)
    clear hMN hN hN2
    have hl := (okG_iff.1 hg).1.2.2
    go_enter Try.func19, Try.ntmps19
    go_wp2
    go_ret
    exact ⟨ret_bool Hf.out.symm, (Below.refl _ w).alloc (Nat.le_refl _) _⟩
end Go.Proofs.Ytcnhkcbkeneobaa
