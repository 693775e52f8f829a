/-
Contract of the reference's Check.
-/
import Derived.Test.YtcnhkcbkeneobaaFlowD
import Derived.Deep.RegionHeld3
namespace Go.Proofs.Ytcnhkcbkeneobaa
open Go.RowKit

/-- What Check answers. -/
noncomputable def checkB (nodes : Int) (es : List GEdge) (s t : Int) (fl : List Int) (side : List Bool) : Bool :=
  okEnds nodes es s t && (flowB nodes es s t fl && cutB nodes s t side && decide (net es fl s = capac es side))

set_option maxHeartbeats 1600000 in
theorem rfCheck_any (nodes s t : Int) (A A2 A3 : Option Addr) (c c2 c3 N M K : Nat) (es : List GEdge) (fl : List Int) (side : List Bool) (w : World) (hR : Rd 3 encE w A es) (hN : es.length = N) (hNl : N ≤ 9223372036854775807)
    (hR2 : Rd 1 encI w A2 fl) (hN2 : fl.length = M) (hMl : M ≤ 9223372036854775807) (hR3 : Rd 1 encB w A3 side) (hN3 : side.length = K) :
    Calls Try.prog 13 #[.agg #[.int .i64 nodes, .slice A N c], .int .i64 s, .int .i64 t, .slice A2 M c2, .slice A3 K c3] w fun e w' => e = .returned (.bool (checkB nodes es s t fl side)) ∧ Below w.heap.size w w' := by
  have Hck : Hid (checkB nodes es s t fl side = (okEnds nodes es s t && (flowB nodes es s t fl && cutB nodes s t side && decide (net es fl s = capac es side)))) := rfl
  generalize checkB nodes es s t fl side = CK at *
  have HN := Lib.hid hN; clear hN
  have HN2 := Lib.hid hN2; clear hN2
  have HN3 := Lib.hid hN3; clear hN3
  go_enter Try.func13, Try.ntmps13
  go_wp2_with fail
  refine (rfEnds_any nodes s t A c N es _ (hR.keep ((Below.refl _ w).alloc (Nat.le_refl _) _)) HN.out hNl).mono ?_
  rintro e w1 ⟨rfl, hb1⟩
  have hbw : Below w.heap.size w w1 := below_then ((Below.refl _ w).alloc (Nat.le_refl _) _) hb1
  have hc0 : w1.cell? ⟨w.heap.size, 0, none⟩ = some (.int .i64 nodes) := (hb1.cell (p := ⟨w.heap.size, 0, none⟩) (by simp)).trans (by go_simp)
  have hc1 : w1.cell? ⟨w.heap.size, 1, none⟩ = some (.slice A N c) := (hb1.cell (p := ⟨w.heap.size, 1, none⟩) (by simp)).trans (by go_simp)
  have hz : w.heap.size < w1.heap.size := by have := hb1.size; simp at this; omega
  replace hR := hR.keep hbw
  replace hR2 := hR2.keep hbw
  replace hR3 := hR3.keep hbw
  clear hb1
  cases hE : okEnds nodes es s t
  · have Hck2 := Hck.out
    rw [hE] at Hck2
    have Hck3 := Lib.hid Hck2; clear Hck Hck2 hE
    go_wp2
    go_ret
    exact ⟨ret_bool (by rw [Hck3.out]; rfl), hbw⟩
  · obtain ⟨hg, s1, s2, t1, t2, hst⟩ := okEnds_iff.1 hE
    have Hck2 := Hck.out
    rw [hE] at Hck2
    have Hck3 := Lib.hid Hck2; clear Hck Hck2 hE
    have Hst := Lib.hid hst; clear hst
    have Hg := Lib.hid hg; clear hg
    go_wp2_with fail
    refine (rfFlow_any nodes s t A A2 c c2 N M es fl _ hR HN.out Hg.out hR2 HN2.out hMl).mono ?_
    rintro e w2 ⟨rfl, hb2⟩
    have hbw2 : Below w.heap.size w w2 := below_then hbw hb2
    replace hc0 := (hb2.cell (p := ⟨w.heap.size, 0, none⟩) hz).trans hc0
    replace hc1 := (hb2.cell (p := ⟨w.heap.size, 1, none⟩) hz).trans hc1
    replace hR := hR.keep hb2
    replace hR2 := hR2.keep hb2
    replace hR3 := hR3.keep hb2
    have hz2 : w.heap.size < w2.heap.size := Nat.lt_of_lt_of_le hz hb2.size
    clear hb2
    go_wp2_with fail
    refine (rfCut_any nodes s t A A3 c c3 N K side _ ⟨s1, s2⟩ ⟨t1, t2⟩ hR3 HN3.out).mono ?_
    rintro e w3 ⟨rfl, hb3⟩
    have hbw3 : Below w.heap.size w w3 := below_then hbw2 hb3
    replace hc0 := (hb3.cell (p := ⟨w.heap.size, 0, none⟩) hz2).trans hc0
    replace hc1 := (hb3.cell (p := ⟨w.heap.size, 1, none⟩) hz2).trans hc1
    replace hR := hR.keep hb3
    replace hR2 := hR2.keep hb3
    replace hR3 := hR3.keep hb3
    have hz3 : w.heap.size < w3.heap.size := Nat.lt_of_lt_of_le hz2 hb3.size
    clear hb3 hbw hbw2 hz hz2
    cases hF : flowB nodes es s t fl
    · rw [hF] at Hck3
      clear hF
      go_wp2_with fail
      go_quiet (fail)
      go_wp2
      go_ret
      exact ⟨ret_bool (by rw [Hck3.out]; rfl), below_drewN hbw3 _⟩
    · have hfl := flowB_iff.1 hF
      rw [hF] at Hck3
      clear hF
      cases hC : cutB nodes s t side
      · rw [hC] at Hck3
        clear hC
        go_wp2_with fail
        go_quiet (fail)
        go_wp2
        go_ret
        exact ⟨ret_bool (by rw [Hck3.out]; rfl), below_drewN hbw3 _⟩
      · have hcut := cutB_iff.1 hC
        rw [hC] at Hck3
        clear hC
        have HMN : Hid (M = N) := by unfold Hid; rw [← HN2.out, hfl.len, HN.out]
        obtain rfl := HMN.out
        clear HMN
        have hK := hcut.len
        rw [HN3.out] at hK
        have HK := Lib.hid hK; clear hK
        have hl := (okG_iff.1 Hg.out).1.2.2
        rw [HN.out] at hl
        have Hcap : Hid (∀ i, i < M → 0 ≤ fAt fl i ∧ fAt fl i ≤ 1000000) := by
          intro i hi
          have a := hfl.fits i (by rw [HN.out]; exact hi)
          have b := okG_at Hg.out (i := i) (by rw [HN.out]; exact hi)
          omega
        clear hfl hcut
        go_wp2_with fail
        go_region_held3 (fun w' => w'.cell? ⟨w.heap.size, 0, none⟩ = some (.int .i64 nodes) ∧ w'.cell? ⟨w.heap.size, 1, none⟩ = some (.slice A M c)) (first | exact ⟨hc0, hc1⟩ | exact ⟨(hb4.cell (p := ⟨w.heap.size, 0, none⟩) hz3).trans hc0, (hb4.cell (p := ⟨w.heap.size, 1, none⟩) hz3).trans hc1⟩ | exact ⟨(hb5.cell (p := ⟨w.heap.size, 0, none⟩) hz4).trans ((hb4.cell (p := ⟨w.heap.size, 0, none⟩) hz3).trans hc0), (hb5.cell (p := ⟨w.heap.size, 1, none⟩) hz4).trans ((hb4.cell (p := ⟨w.heap.size, 1, none⟩) hz3).trans hc1)⟩)
          (first | (go_at_call 21; refine (rfAmount_any nodes s A A2 c c2 M es fl _ (by exact hR) HN.out hl (by exact hR2) HN2.out Hcap.out).mono ?_; rintro e w4 ⟨rfl, hb4'⟩; have hb4 := below_of_drew hb4'; have hz4 : w.heap.size < w4.heap.size := Nat.lt_of_lt_of_le hz3 hb4.size) | (go_at_call 22; refine (rfCapacity_any nodes A A3 c c3 M K es side _ (by exact hR.keep hb4) HN.out Hg.out (by exact hR3.keep hb4) HN3.out HK.out).mono ?_; rintro e w5 ⟨rfl, hb5⟩))
        go_wp2
        go_ret
        exact ⟨ret_bool (by rw [Hck3.out]; rfl), below_then (below_then hbw3 hb4) hb5⟩
end Go.Proofs.Ytcnhkcbkeneobaa
