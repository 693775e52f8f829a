/-
Contract of the program's Check for all arguments.
-/
import Derived.Test.YtcnhkcbkeneobaaFlowF
namespace Go.Proofs.Ytcnhkcbkeneobaa
open Go.RowKit

set_option maxHeartbeats 3200000 in
set_option maxRecDepth 100000 in
theorem fCheck_any (nodes s t : Int) (A A2 A3 : Option Addr) (c c2 c3 N M K : Nat) (es : List GEdge) (fl : List Int) (side : List Bool) (w : World) (hR : Rd 3 encE w A es) (hN : es.length = N) (hNl : N ≤ 9223372036854775807)
    (hR2 : Rd 1 encI w A2 fl) (hN2 : fl.length = M) (_hMl : M ≤ 9223372036854775807) (hR3 : Rd 1 encB w A3 side) (hN3 : side.length = K) (_hKl : K ≤ 9223372036854775807) :
    Calls Try.prog 17 #[.agg #[.int .i64 nodes, .slice A N c], .int .i64 s, .int .i64 t, .slice A2 M c2, .slice A3 K c3] w fun e w' => e = .returned (.bool (checkB nodes es s t fl side)) ∧ Below w.heap.size w w' := by
  by_cases hgood : okEnds nodes es s t = true ∧ M = N ∧ (K : Int) = nodes ∧ sAt side s = true ∧ sAt side t = false
  · obtain ⟨h1, rfl, h3, h4, h5⟩ := hgood
    exact fCheck_loop nodes s t A A2 A3 c c2 c3 M K es fl side w hR hN hR2 hN2 hR3 hN3 h3 h1 h4 h5
  · have Hf : Hid (checkB nodes es s t fl side = false) := by
      refine checkB_false_of ?_
      rintro ⟨h1, h2, h3, _⟩
      exact hgood ⟨h1, by rw [← hN2, h2.len, hN], by rw [← hN3]; exact h3.len, h3.src, h3.snk⟩
    have Hgood := Lib.hid hgood; clear hgood
    have HN := Lib.hid hN; clear hN
    have HN2 := Lib.hid hN2; clear hN2
    have HN3 := Lib.hid hN3; clear hN3
    generalize checkB nodes es s t fl side = CK at *
    have start : ∀ E : Bool, okEnds nodes es s t = E → Calls Try.prog 24 #[.agg #[.int .i64 nodes, .slice A N c], .int .i64 s, .int .i64 t] (w.alloc (.cells #[.int .i64 nodes, .slice A N c] 24)) fun e w' => e = .returned (.bool E) ∧ Below w.heap.size w w' ∧ w.heap.size < w'.heap.size ∧ w'.cell? ⟨w.heap.size, 0, none⟩ = some (.int .i64 nodes) ∧ w'.cell? ⟨w.heap.size, 1, none⟩ = some (.slice A N c) := by
      rintro E rfl
      refine (fEnds_any nodes s t A c N es _ (hR.keep ((Below.refl _ w).alloc (Nat.le_refl _) _)) HN.out hNl).mono ?_
      rintro e w1 ⟨rfl, hb⟩
      exact ⟨rfl, below_then ((Below.refl _ w).alloc (Nat.le_refl _) _) hb, by have := hb.size; simp at this; omega, (hb.cell (p := ⟨w.heap.size, 0, none⟩) (by simp)).trans (by go_simp), (hb.cell (p := ⟨w.heap.size, 1, none⟩) (by simp)).trans (by go_simp)⟩
    have Hs := Lib.hid start; clear start
    cases hE : okEnds nodes es s t
    · have Hs2 := Lib.hid (Hs.out _ hE); clear Hs hE Hgood
      go_enter Try.func17, Try.ntmps17
      go_wp2_with fail
      refine Hs2.out.mono ?_
      rintro e w1 ⟨rfl, hbw, hz, hc0, hc1⟩
      go_wp2
      go_ret
      exact ⟨ret_bool Hf.out.symm, hbw⟩
    · have Hs2 := Lib.hid (Hs.out _ hE); clear Hs
      obtain ⟨_, s1, s2, t1, t2, _⟩ := okEnds_iff.1 hE
      by_cases hMN : M = N
      · by_cases hK : (K : Int) = nodes
        · subst hMN
          have hb1 : ((M : Int) != (M : Int)) = false := by simp
          have hb2 : ((K : Int) != nodes) = false := by simpa using hK
          obtain ⟨b3, off3, rfl, hbl3, q0⟩ := hR3.bool (k := s.toNat) (by rw [HN3.out]; omega)
          obtain ⟨_, _, e2, _, q1⟩ := hR3.bool (k := t.toNat) (by rw [HN3.out]; omega)
          cases e2
          rw [← sAt_get] at q0 q1
          have sK : s < (K : Int) := by omega
          have tK : t < (K : Int) := by omega
          cases h4 : sAt side s
          · rw [h4] at q0
            clear Hgood hE hK h4
            go_enter Try.func17, Try.ntmps17
            go_wp2_with fail
            refine Hs2.out.mono ?_
            rintro e w1 ⟨rfl, hbw, hz, hc0, hc1⟩
            replace q0 := (hbw.cell (p := ⟨b3, _, none⟩) hbl3).trans q0
            replace q1 := (hbw.cell (p := ⟨b3, _, none⟩) hbl3).trans q1
            go_wp2
            go_ret
            exact ⟨ret_bool Hf.out.symm, hbw⟩
          · cases h5 : sAt side t
            · exact absurd ⟨hE, rfl, hK, h4, h5⟩ Hgood.out
            · rw [h4] at q0
              rw [h5] at q1
              clear Hgood hE hK h4 h5
              go_enter Try.func17, Try.ntmps17
              go_wp2_with fail
              refine Hs2.out.mono ?_
              rintro e w1 ⟨rfl, hbw, hz, hc0, hc1⟩
              replace q0 := (hbw.cell (p := ⟨b3, _, none⟩) hbl3).trans q0
              replace q1 := (hbw.cell (p := ⟨b3, _, none⟩) hbl3).trans q1
              go_wp2
              go_ret
              exact ⟨ret_bool Hf.out.symm, hbw⟩
        · subst hMN
          have hb1 : ((M : Int) != (M : Int)) = false := by simp
          have hb2 : ((K : Int) != nodes) = true := by simpa using hK
          clear Hgood hE hK
          go_enter Try.func17, Try.ntmps17
          go_wp2_with fail
          refine Hs2.out.mono ?_
          rintro e w1 ⟨rfl, hbw, hz, hc0, hc1⟩
          go_wp2
          go_ret
          exact ⟨ret_bool Hf.out.symm, hbw⟩
      · have hb1 : ((M : Int) != (N : Int)) = true := by simp; omega
        clear Hgood hE hMN
        go_enter Try.func17, Try.ntmps17
        go_wp2_with fail
        refine Hs2.out.mono ?_
        rintro e w1 ⟨rfl, hbw, hz, hc0, hc1⟩
        go_wp2
        go_ret
        exact ⟨ret_bool Hf.out.symm, hbw⟩
end Go.Proofs.Ytcnhkcbkeneobaa
