/-
Contracts of the functions that only read a graph: Valid, Ends, Amount, Cut, Capacity, Flow of the reference; Valid and ends of the program.
-/
import Derived.Test.YtcnhkcbkeneobaaProg
import Derived.Test.YtcnhkcbkeneobaaBase
import Derived.Test.YtcnhkcbkeneobaaFlowMath
import Derived.Deep.QuietTactic
import Derived.BigQuiet
namespace Go.Proofs.Ytcnhkcbkeneobaa
open Go.RowKit

def encE (e : GEdge) : List Value := [.int .i64 e.frm, .int .i64 e.to, .int .i64 e.cap]
theorem rdE_at {w : World} {A : Option Addr} {es : List GEdge} (h : Rd 3 encE w A es) {k : Nat} (hk : k < es.length) :
    ∃ b off e, A = some ⟨b, off, none⟩ ∧ b < w.heap.size ∧ es[k]? = some e ∧ w.cell? ⟨b, off + k * 3, none⟩ = some (.int .i64 e.frm) ∧ w.cell? ⟨b, off + k * 3 + 1, none⟩ = some (.int .i64 e.to) ∧ w.cell? ⟨b, off + k * 3 + 2, none⟩ = some (.int .i64 e.cap) := by
  obtain ⟨b, off, e, hA, hlt, hx, hc⟩ := h.at_ hk
  exact ⟨b, off, e, hA, hlt, hx, hc 0 _ rfl, hc 1 _ rfl, hc 2 _ rfl⟩
theorem all_snoc {α : Type} {p : α → Bool} {xs : List α} {k : Nat} {x : α} (hx : xs[k]? = some x) (h : (xs.take k).all p = true) (h' : p x = true) : (xs.take (k + 1)).all p = true := by
  rw [take_snoc hx, List.all_append, h]; simp [h']
theorem all_not {α : Type} {p : α → Bool} {xs : List α} {k : Nat} {x : α} (hx : xs[k]? = some x) (h' : p x = false) : xs.all p = false := by
  rw [List.all_eq_false]
  exact ⟨x, List.mem_of_getElem? hx, by simp [h']⟩

set_option maxHeartbeats 800000 in
theorem fValid_any (nodes : Int) (A : Option Addr) (c N : Nat) (es : List GEdge) (w : World) (hR : Rd 3 encE w A es) (hN : es.length = N) (hl : N ≤ 9223372036854775807) :
    Calls Try.prog 16 #[.agg #[.int .i64 nodes, .slice A N c]] w fun e w' => e = .returned (.bool (okG nodes es)) ∧ Below w.heap.size w w' := by
  have HN := Lib.hid hN
  by_cases h1 : 1 ≤ nodes ∧ nodes ≤ 64 ∧ N ≤ 512
  · obtain ⟨h1, h2, h3⟩ := h1
    have Hg : Hid (okG nodes es = es.all (okE nodes)) := by unfold Hid okG; rw [hN]; simp [h1, h2, h3]
    clear hN
    go_enter Try.func16, Try.ntmps16
    go_wp2
    go_loopw [22] (fun i wr => ∃ k : Nat, k ≤ N ∧ i = .int .i64 k ∧ (es.take k).all (okE nodes) = true ∧ Below (w.heap.size+1) (w.alloc (.cells #[.int .i64 nodes, .slice A N c] 24)) wr) (fun i _ => N - (intOf i).toNat)
    case atStart => exact ⟨0, Nat.zero_le _, rfl, rfl, Below.refl _ _⟩
    case round =>
      obtain ⟨k, hk, rfl, hall, hb⟩ := hrel
      have Hall := Lib.hid hall; clear hall
      have hR' : Rd 3 encE wr A es := hR.keep1 hb
      have hbw : Below w.heap.size w wr := ((Below.refl _ w).alloc (Nat.le_refl _) _).trans (hb.mono (by omega))
      have hc0 : wr.cell? ⟨w.heap.size, 0, none⟩ = some (.int .i64 nodes) := (hb.cell (p := ⟨w.heap.size, 0, none⟩) (by simp)).trans (by go_simp)
      have hz : w.heap.size < wr.heap.size := by have := hb.size; simp at this; omega
      by_cases hlt : k < N
      · obtain ⟨b, off, e, rfl, hbl, he, g0, g1, g2⟩ := rdE_at hR' (k := k) (by rw [HN.out]; exact hlt)
        have He := Lib.hid he; clear he
        by_cases hok : okE nodes e = true
        · have Hok := Lib.hid hok
          obtain ⟨o1, o2, o3, o4, o5, o6⟩ := okE_iff.1 hok
          clear hok
          go_wp2
          go_roundw
          case rel => exact ⟨k + 1, hlt, natcast_succ k, all_snoc He.out Hall.out Hok.out, hb.alloc (by omega) _⟩
          case measure => simp [intOf]; omega
        · have hok' : okE nodes e = false := by simpa using hok
          have Hok := Lib.hid hok'; clear hok hok'
          go_wp2
          all_goals first
            | (go_ret
               exact ⟨ret_bool (by rw [Hg.out, all_not He.out Hok.out]), hbw.alloc (Nat.le_of_lt hz) _⟩)
            | (exfalso; have := Hok.out; simp only [okE, decide_eq_false_iff_not] at this; omega)
      · obtain rfl : k = N := by omega
        go_wp2
        go_ret
        exact ⟨ret_bool (by rw [Hg.out, ← Hall.out, List.take_of_length_le (by rw [HN.out]; exact Nat.le_refl _)]), hbw⟩
  · have Hg : Hid (okG nodes es = false) := by
      unfold Hid okG; rw [hN]; simp only [Bool.and_eq_false_iff, decide_eq_false_iff_not]; exact .inl h1
    clear hN
    have h1' : nodes < 1 ∨ 64 < nodes ∨ 512 < N := by omega
    clear h1
    rcases h1' with h | h | h
    all_goals
      go_enter Try.func16, Try.ntmps16
      go_wp2
      all_goals first
        | (go_ret; exact ⟨ret_bool Hg.out.symm, (Below.refl _ w).alloc (Nat.le_refl _) _⟩)
        | skip
end Go.Proofs.Ytcnhkcbkeneobaa
