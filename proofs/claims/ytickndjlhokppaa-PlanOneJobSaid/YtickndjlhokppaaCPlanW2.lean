/-
The law PlanOneJob, walked.
-/
import Derived.Test.YtickndjlhokppaaCPlanW1
namespace Go.Proofs.Ytickndjlhokppaa
open Go.RowKit
set_option linter.unusedVariables false
theorem rd_oneJ (w : World) (j : GJob) : Rd 5 encJ (w.alloc (.cells #[.int .i64 j.frm, .int .i64 j.till, .int .i64 j.energy, .int .i64 j.rate, .int .i64 j.rank] 38)) (some ⟨w.heap.size, 0, none⟩) [j] := rd_litJ w [j]
theorem mostOne_succ (j : GJob) (sup : List Int) (m : Nat) : mostOne j sup (m + 1) = mostOne j sup m + min j.rate (fAt sup (j.frm.toNat + m)) := rfl
set_option maxRecDepth 100000 in
set_option maxHeartbeats 2000000 in
theorem walk_PlanOneJob (j : GJob) {w : World} (_ : wfJ j)
    (A2 : Option Addr) (c2 T : Nat) (sup : List Int) (hR2 : Rd 1 encI w A2 sup) (HN2 : Hid (sup.length = T)) (hl2 : T ≤ 9223372036854775807) (_ : ∀ x, x ∈ sup → wf64 x) :
    Calls Try.prog 7 #[.agg #[.int .i64 j.frm, .int .i64 j.till, .int .i64 j.energy, .int .i64 j.rate, .int .i64 j.rank], .slice A2 T c2] w fun e w' => e = .returned (.bool true) ∧ Below w.heap.size w w' := by
  have a0 : Below w.heap.size w (w.alloc (.cells #[.int .i64 j.frm, .int .i64 j.till, .int .i64 j.energy, .int .i64 j.rate, .int .i64 j.rank] 38)) := (Below.refl _ w).alloc (Nat.le_refl _) _
  go_enter Try.func7, Try.ntmps7
  go_wp2_with fail
  refine (lpHead_any _).mono ?_
  rintro e w1 ⟨rfl, hb1⟩
  have b1 := below_then a0 hb1
  have k0 : w1.cell? ⟨w.heap.size, 0, none⟩ = some (.int .i64 j.frm) := (hb1.cell (p := ⟨w.heap.size, 0, none⟩) (by simp)).trans (by go_simp)
  have k1 : w1.cell? ⟨w.heap.size, 1, none⟩ = some (.int .i64 j.till) := (hb1.cell (p := ⟨w.heap.size, 1, none⟩) (by simp)).trans (by go_simp)
  have k2 : w1.cell? ⟨w.heap.size, 2, none⟩ = some (.int .i64 j.energy) := (hb1.cell (p := ⟨w.heap.size, 2, none⟩) (by simp)).trans (by go_simp)
  have k3 : w1.cell? ⟨w.heap.size, 3, none⟩ = some (.int .i64 j.rate) := (hb1.cell (p := ⟨w.heap.size, 3, none⟩) (by simp)).trans (by go_simp)
  have k4 : w1.cell? ⟨w.heap.size, 4, none⟩ = some (.int .i64 j.rank) := (hb1.cell (p := ⟨w.heap.size, 4, none⟩) (by simp)).trans (by go_simp)
  have l1 : w.heap.size < w1.heap.size := World.block_lt_of_cell? w1 _ k0
  clear hb1 a0
  go_wp2_with fail
  refine (rpFew_any none A2 none none none 0 0 c2 T 0 0 0 0 0 0 [] sup [] [] [] [] w1 (Lib.hid rfl) HN2 RdP.nil (Lib.hid rfl) (by omega) (Lib.hid rfl) (Lib.hid rfl)).mono ?_
  rintro e w2 ⟨rfl, hb2⟩
  have b2 := below_then b1 hb2
  have m0 := (hb2.cell (p := ⟨w.heap.size, 0, none⟩) l1).trans k0
  have m1 := (hb2.cell (p := ⟨w.heap.size, 1, none⟩) l1).trans k1
  have m2 := (hb2.cell (p := ⟨w.heap.size, 2, none⟩) l1).trans k2
  have m3 := (hb2.cell (p := ⟨w.heap.size, 3, none⟩) l1).trans k3
  have m4 := (hb2.cell (p := ⟨w.heap.size, 4, none⟩) l1).trans k4
  have l2 : w.heap.size < w2.heap.size := World.block_lt_of_cell? w2 _ m0
  clear k0 k1 k2 k3 k4 hb2
  cases hfew : fewB [] sup [] [] []
  · go_wp2_with fail
    go_ret
    exact ⟨rfl, b2⟩
  · clear hfew
    have ba : Below w2.heap.size w2 (w2.alloc (.cells #[.int .i64 j.frm, .int .i64 j.till, .int .i64 j.energy, .int .i64 j.rate, .int .i64 j.rank] 38)) := (Below.refl _ _).alloc (Nat.le_refl _) _
    have b2' := below_then b2 ba
    go_wp2_with fail
    refine (rpValid_any _ A2 1 1 c2 T [j] sup _ (rd_oneJ w2 j) (Lib.hid rfl) (by omega) (hR2.keep b2') HN2 hl2).mono ?_
    rintro e w3 ⟨rfl, hb3⟩
    have b3 := below_then b2' hb3
    have hb23 := below_then ba hb3
    have n0 := (hb23.cell (p := ⟨w.heap.size, 0, none⟩) l2).trans m0
    have n1 := (hb23.cell (p := ⟨w.heap.size, 1, none⟩) l2).trans m1
    have n2 := (hb23.cell (p := ⟨w.heap.size, 2, none⟩) l2).trans m2
    have n3 := (hb23.cell (p := ⟨w.heap.size, 3, none⟩) l2).trans m3
    have n4 := (hb23.cell (p := ⟨w.heap.size, 4, none⟩) l2).trans m4
    have l3 : w.heap.size < w3.heap.size := World.block_lt_of_cell? w3 _ n0
    clear m0 m1 m2 m3 m4 ba b2' hb3 hb23
    cases hok : okP [j] sup
    · go_wp2_with fail
      go_ret
      exact ⟨rfl, b3⟩
    · have HOK := Lib.hid hok
      obtain ⟨p1, p2, p3, p4, p5, p6, p7, _, _⟩ := okP_job hok (i := 0) (by simp)
      have ej : jAt [j] 0 = j := rfl
      rw [ej] at p1 p2 p3 p4 p5 p6 p7
      have hT : T ≤ 24 := by have := (okP_iff.1 hok).1.2; rw [HN2.out] at this; exact this
      rw [HN2.out] at p3
      have HSU := Lib.hid (fun (t : Nat) (ht : t < T) => okP_sup HOK.out (t := t) (by rw [HN2.out]; exact ht))
      have HR3 := Lib.hid (hR2.keep b3)
      have HB3 := Lib.hid b3
      clear hok hR2 b3 b2 b1
      go_wp2
      obtain ⟨fn, hfn⟩ : ∃ fn : Nat, j.frm = fn := ⟨j.frm.toNat, by omega⟩
      have Hfn := Lib.hid hfn
      clear hfn
      have hln : lenJ j ≤ 24 := by unfold lenJ; omega
      go_loopg [8, 9] (lenJ j) (fun g1 v8 v9 wr => ∃ k : Nat, v8 = .int .i64 (mostOne j sup k) ∧ v9 = .int .i64 (j.frm + k) ∧ k ≤ lenJ j ∧ lenJ j - k ≤ g1 ∧ Hid (0 ≤ mostOne j sup k ∧ mostOne j sup k ≤ 1000 * k) ∧ Hid (Below w3.heap.size w3 wr))
      case atStart => exact ⟨0, by go_num, by simp, by omega, by omega, Lib.hid (by simp [mostOne, S]), Lib.hid (Below.refl _ _)⟩
      case round =>
        obtain ⟨k, rfl, rfl, hk, hg1, HBD, HB⟩ := hrel
        have q0 := (HB.out.cell (p := ⟨w.heap.size, 0, none⟩) l3).trans n0
        have q1 := (HB.out.cell (p := ⟨w.heap.size, 1, none⟩) l3).trans n1
        have q2 := (HB.out.cell (p := ⟨w.heap.size, 2, none⟩) l3).trans n2
        have q3 := (HB.out.cell (p := ⟨w.heap.size, 3, none⟩) l3).trans n3
        have q4 := (HB.out.cell (p := ⟨w.heap.size, 4, none⟩) l3).trans n4
        have bd := HBD.out
        by_cases hlt : k < lenJ j
        · have hltz : j.frm + (k : Int) < j.till := by unfold lenJ at hlt; omega
          have hfk : fn + k < T := by have := Hfn.out; omega
          obtain ⟨b, off, hA, hbl, hc0⟩ := (HR3.out.keep HB.out).int (k := fn + k) (by rw [HN2.out]; exact hfk)
          have hc1 : wr.cell? ⟨b, off + (fn + k), none⟩ = some (.int .i64 (fAt sup (fn + k))) := hc0
          have hsu := HSU.out (fn + k) hfk
          subst hA
          have Hs : Hid (mostOne j sup (k + 1) = mostOne j sup k + min j.rate (fAt sup (fn + k))) := Lib.hid (by rw [mostOne_succ, Hfn.out]; rfl)
          have hix : j.frm + (k : Int) = ((fn + k : Nat) : Int) := by have := Hfn.out; omega
          have hixz : ((fn + k : Nat) : Int) < (T : Int) := by omega
          clear hc0
          generalize mostOne j sup k = mo at *
          generalize fAt sup (fn + k) = sk at *
          generalize fn + k = ix at *
          rw [hix]
          have hmn : 0 ≤ min j.rate sk ∧ min j.rate sk ≤ 1000 := by omega
          rw [hix] at hltz
          have Hix := Lib.hid hix
          clear hix
          by_cases hle : sk < j.rate
          · go_wp2
            go_quiet (fail)
            go_wp2
            go_roundg (lenJ j - (k + 1))
            case measure => omega
            case rel => exact ⟨k + 1, val_int (by rw [Hs.out]; omega), val_int (by have := Hix.out; omega), by omega, by omega, Lib.hid (by rw [Hs.out]; omega), Lib.hid (below_drewN HB.out _)⟩
          · go_wp2
            go_quiet (fail)
            go_wp2
            go_roundg (lenJ j - (k + 1))
            case measure => omega
            case rel => exact ⟨k + 1, val_int (by rw [Hs.out]; omega), val_int (by have := Hix.out; omega), by omega, by omega, Lib.hid (by rw [Hs.out]; omega), Lib.hid (below_drewN HB.out _)⟩
        · have hltz : ¬ j.frm + (k : Int) < j.till := by unfold lenJ at hlt; omega
          have hkl : k = lenJ j := by omega
          have Hm : Hid (MetPost [j] sup true → j.energy ≤ mostOne j sup k) := Lib.hid (fun h => by rw [hkl]; exact (met_one HOK.out).1 (h.1.1 rfl))
          have Hm2 : Hid (MetPost [j] sup false → ¬ j.energy ≤ mostOne j sup k) := Lib.hid (fun h x => by
            rw [hkl] at x
            have := h.1.2 ((met_one HOK.out).2 x)
            cases this)
          clear hkl hlt
          generalize mostOne j sup k = mo at *
          have b4 := below_then HB3.out HB.out
          have ba : Below wr.heap.size wr (wr.alloc (.cells #[.int .i64 j.frm, .int .i64 j.till, .int .i64 j.energy, .int .i64 j.rate, .int .i64 j.rank] 38)) := (Below.refl _ _).alloc (Nat.le_refl _) _
          have b4' := below_then b4 ba
          have hrk := HR3.out.keep (below_then HB.out ba)
          have l4 : w.heap.size < wr.heap.size := World.block_lt_of_cell? wr _ q0
          go_wp2_with fail
          refine (lpMet_any _ A2 1 1 c2 T [j] sup _ (rd_oneJ wr j) (Lib.hid rfl) (by omega) hrk HN2 hl2).mono ?_
          rintro e w5 ⟨m, rfl, hm, _, hb5⟩
          rw [HOK.out]
          have hmm := hm HOK.out
          have e2 := ((below_then ba hb5).cell (p := ⟨w.heap.size, 2, none⟩) l4).trans q2
          have Hend := Lib.hid (below_then b4' hb5)
          clear hm hb5 b4 b4' ba hrk
          cases m
          · have hd := Hm2.out hmm
            go_wp2_with fail
            go_ret
            exact ⟨by first | rfl | (simp; done) | (simp; omega), Hend.out⟩
          · have hd := Hm.out hmm
            go_wp2_with fail
            go_ret
            exact ⟨by first | rfl | (simp; done) | (simp; omega), Hend.out⟩
end Go.Proofs.Ytickndjlhokppaa
