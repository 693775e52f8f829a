/-
Contracts of the reference's Valid and Ends, and of the program's ends.
-/
import Derived.Test.YtcnhkcbkeneobaaFlowA
namespace Go.Proofs.Ytcnhkcbkeneobaa
open Go.RowKit

set_option maxHeartbeats 800000 in
theorem rfValid_any (nodes : Int) (A : Option Addr) (c N : Nat) (es : List GEdge) (w : World) (hR : Rd 3 encE w A es) (hN : es.length = N) (hl : N ≤ 9223372036854775807) :
    Calls Try.prog 12 #[.agg #[.int .i64 nodes, .slice A N c]] w fun e w' => e = .returned (.bool (okG nodes es)) ∧ Below w.heap.size w w' := by
  have HN := Lib.hid hN
  by_cases h1 : 1 ≤ nodes ∧ nodes ≤ 64 ∧ N ≤ 512
  · obtain ⟨h1, h2, h3⟩ := h1
    have Hg : Hid (okG nodes es = es.all (okE nodes)) := by unfold Hid okG; rw [hN]; simp [h1, h2, h3]
    clear hN
    go_enter Try.func12, Try.ntmps12
    go_wp2
    go_loopw [3] (fun i wr => ∃ k : Nat, k ≤ N ∧ i = .int .i64 k ∧ (es.take k).all (okE nodes) = true ∧ Below (w.heap.size+1) (w.alloc (.cells #[.int .i64 nodes, .slice A N c] 24)) wr) (fun i _ => N - (intOf i).toNat)
    case atStart => exact ⟨0, Nat.zero_le _, rfl, rfl, Below.refl _ _⟩
    case round =>
      obtain ⟨k, hk, rfl, hall, hb⟩ := hrel
      have Hall := Lib.hid hall; clear hall
      have hR' : Rd 3 encE wr A es := hR.keep1 hb
      have hbw : Below w.heap.size w wr := ((Below.refl _ w).alloc (Nat.le_refl _) _).trans (hb.mono (by omega))
      have hc0 : wr.cell? ⟨w.heap.size, 0, none⟩ = some (.int .i64 nodes) := (hb.cell (p := ⟨w.heap.size, 0, none⟩) (by simp)).trans (by go_simp)
      have hc1 : wr.cell? ⟨w.heap.size, 1, none⟩ = some (.slice A N c) := (hb.cell (p := ⟨w.heap.size, 1, none⟩) (by simp)).trans (by go_simp)
      have hz : w.heap.size < wr.heap.size := by have := hb.size; simp at this; omega
      by_cases hlt : k < N
      · obtain ⟨b, off, e, rfl, hbl, he, g0, g1, g2⟩ := rdE_at hR' (k := k) (by rw [HN.out]; exact hlt)
        have He := Lib.hid he; clear he
        by_cases hok : okE nodes e = true
        · have Hok := Lib.hid hok
          obtain ⟨o1, o2, o3, o4, o5, o6⟩ := okE_iff.1 hok
          clear hok
          go_wp2
          go_roundw
          case rel => exact ⟨k + 1, hlt, natcast_succ k, all_snoc He.out Hall.out Hok.out, hb.alloc (by omega) _⟩
          case measure => simp [intOf]; omega
        · have hok' : okE nodes e = false := by simpa using hok
          have Hok := Lib.hid hok'; clear hok hok'
          go_wp2
          all_goals first
            | (go_ret
               exact ⟨ret_bool (by rw [Hg.out, all_not He.out Hok.out]), hbw.alloc (Nat.le_of_lt hz) _⟩)
            | (exfalso; have := Hok.out; simp only [okE, decide_eq_false_iff_not] at this; omega)
      · obtain rfl : k = N := by omega
        go_wp2
        go_ret
        exact ⟨ret_bool (by rw [Hg.out, ← Hall.out, List.take_of_length_le (by rw [HN.out]; exact Nat.le_refl _)]), hbw⟩
  · have Hg : Hid (okG nodes es = false) := by
      unfold Hid okG; rw [hN]; simp only [Bool.and_eq_false_iff, decide_eq_false_iff_not]; exact .inl h1
    clear hN
    have h1' : nodes < 1 ∨ 64 < nodes ∨ 512 < N := by omega
    clear h1
    rcases h1' with h | h | h
    all_goals
      go_enter Try.func12, Try.ntmps12
      go_wp2
      all_goals first
        | (go_ret; exact ⟨ret_bool Hg.out.symm, (Below.refl _ w).alloc (Nat.le_refl _) _⟩)
        | skip

set_option maxHeartbeats 800000 in
theorem rfEnds_any (nodes s t : Int) (A : Option Addr) (c N : Nat) (es : List GEdge) (w : World) (hR : Rd 3 encE w A es) (hN : es.length = N) (hl : N ≤ 9223372036854775807) :
    Calls Try.prog 18 #[.agg #[.int .i64 nodes, .slice A N c], .int .i64 s, .int .i64 t] w fun e w' => e = .returned (.bool (okEnds nodes es s t)) ∧ Below w.heap.size w w' := by
  have HN := Lib.hid hN; clear hN
  have HE : Hid (okEnds nodes es s t = (okG nodes es && decide (0 ≤ s) && decide (s < nodes) && decide (0 ≤ t) && decide (t < nodes) && (s != t))) := by
    unfold Hid okEnds
    cases okG nodes es <;> simp [Bool.and_assoc, bne]
    rw [Bool.eq_iff_iff]; simp
  generalize hE : okEnds nodes es s t = E at *
  clear hE
  have hR' := hR.keep ((Below.refl _ w).alloc (Nat.le_refl _) (.cells #[.int .i64 nodes, .slice A N c] 24))
  go_enter Try.func18, Try.ntmps18
  go_wp2_with fail
  refine (rfValid_any nodes A c N es _ hR' HN.out hl).mono ?_
  rintro e w' ⟨rfl, hb⟩
  have hbw : Below w.heap.size w w' := below_then ((Below.refl _ w).alloc (Nat.le_refl _) _) hb
  have hc0 : w'.cell? ⟨w.heap.size, 0, none⟩ = some (.int .i64 nodes) := (hb.cell (p := ⟨w.heap.size, 0, none⟩) (by simp)).trans (by go_simp)
  clear hb hR hR' HN
  generalize okG nodes es = V at *
  cases V
  · go_wp2
    go_ret
    exact ⟨ret_bool (by rw [HE.out]; simp), hbw⟩
  · go_wp2
    all_goals
      go_ret
      exact ⟨ret_bool (by rw [HE.out, Bool.eq_iff_iff]; simp; omega), hbw⟩

set_option maxHeartbeats 800000 in
theorem fEnds_any (nodes s t : Int) (A : Option Addr) (c N : Nat) (es : List GEdge) (w : World) (hR : Rd 3 encE w A es) (hN : es.length = N) (hl : N ≤ 9223372036854775807) :
    Calls Try.prog 24 #[.agg #[.int .i64 nodes, .slice A N c], .int .i64 s, .int .i64 t] w fun e w' => e = .returned (.bool (okEnds nodes es s t)) ∧ Below w.heap.size w w' := by
  have HN := Lib.hid hN; clear hN
  have HE : Hid (okEnds nodes es s t = (okG nodes es && decide (0 ≤ s) && decide (s < nodes) && decide (0 ≤ t) && decide (t < nodes) && (s != t))) := by
    unfold Hid okEnds
    cases okG nodes es <;> simp [Bool.and_assoc, bne]
    rw [Bool.eq_iff_iff]; simp
  generalize hE : okEnds nodes es s t = E at *
  clear hE
  have hR' := hR.keep ((Below.refl _ w).alloc (Nat.le_refl _) (.cells #[.int .i64 nodes, .slice A N c] 24))
  go_enter Try.func24, Try.ntmps24
  go_wp2_with fail
  refine (fValid_any nodes A c N es _ hR' HN.out hl).mono ?_
  rintro e w' ⟨rfl, hb⟩
  have hbw : Below w.heap.size w w' := below_then ((Below.refl _ w).alloc (Nat.le_refl _) _) hb
  have hc0 : w'.cell? ⟨w.heap.size, 0, none⟩ = some (.int .i64 nodes) := (hb.cell (p := ⟨w.heap.size, 0, none⟩) (by simp)).trans (by go_simp)
  clear hb hR hR' HN
  generalize okG nodes es = V at *
  cases V
  · go_wp2
    go_ret
    exact ⟨ret_bool (by rw [HE.out]; simp), hbw⟩
  · go_wp2
    all_goals
      go_ret
      exact ⟨ret_bool (by rw [HE.out, Bool.eq_iff_iff]; simp; omega), hbw⟩
end Go.Proofs.Ytcnhkcbkeneobaa
