/-
Several texts in one: FlowA, FlowB, FlowC0, FlowF0.
-/
import Derived.Test.YtgfcnkfmgpakkaaProg
import Derived.Test.YtgfcnkfmgpakkaaGBase
import Derived.Test.YtgfcnkfmgpakkaaGMath
import Derived.Deep.QuietTactic
import Derived.BigQuiet
import Derived.BigRegion
import Derived.Deep.RegionHeld3
/-
Contracts of the functions that only read a graph: Valid, Ends, Amount, Cut, Capacity, Flow of the reference; Valid and ends of the program.
-/
namespace Go.Proofs.Ytgfcnkfmgpakkaa
open Go.RowKit

def encE (e : GEdge) : List Value := [.int .i64 e.frm, .int .i64 e.to, .int .i64 e.cap]
theorem rdE_at {w : World} {A : Option Addr} {es : List GEdge} (h : Rd 3 encE w A es) {k : Nat} (hk : k < es.length) :
    ∃ b off e, A = some ⟨b, off, none⟩ ∧ b < w.heap.size ∧ es[k]? = some e ∧ w.cell? ⟨b, off + k * 3, none⟩ = some (.int .i64 e.frm) ∧ w.cell? ⟨b, off + k * 3 + 1, none⟩ = some (.int .i64 e.to) ∧ w.cell? ⟨b, off + k * 3 + 2, none⟩ = some (.int .i64 e.cap) := by
  obtain ⟨b, off, e, hA, hlt, hx, hc⟩ := h.at_ hk
  exact ⟨b, off, e, hA, hlt, hx, hc 0 _ rfl, hc 1 _ rfl, hc 2 _ rfl⟩
theorem all_snoc {α : Type} {p : α → Bool} {xs : List α} {k : Nat} {x : α} (hx : xs[k]? = some x) (h : (xs.take k).all p = true) (h' : p x = true) : (xs.take (k + 1)).all p = true := by
  rw [take_snoc hx, List.all_append, h]; simp [h']
theorem all_not {α : Type} {p : α → Bool} {xs : List α} {k : Nat} {x : α} (hx : xs[k]? = some x) (h' : p x = false) : xs.all p = false := by
  rw [List.all_eq_false]
  exact ⟨x, List.mem_of_getElem? hx, by simp [h']⟩

set_option maxHeartbeats 800000 in
theorem fValid_any (nodes : Int) (A : Option Addr) (c N : Nat) (es : List GEdge) (w : World) (hR : Rd 3 encE w A es) (hN : es.length = N) (hl : N ≤ 9223372036854775807) :
    Calls Try.prog 96 #[.agg #[.int .i64 nodes, .slice A N c]] w fun e w' => e = .returned (.bool (okG nodes es)) ∧ Below w.heap.size w w' := by
  have HN := Lib.hid hN
  by_cases h1 : 1 ≤ nodes ∧ nodes ≤ 64 ∧ N ≤ 512
  · obtain ⟨h1, h2, h3⟩ := h1
    have Hg : Hid (okG nodes es = es.all (okE nodes)) := by unfold Hid okG; rw [hN]; simp [h1, h2, h3]
    clear hN
    go_enter Try.func96, Try.ntmps96
    go_wp2
    go_loopw [22] (fun i wr => ∃ k : Nat, k ≤ N ∧ i = .int .i64 k ∧ (es.take k).all (okE nodes) = true ∧ Below (w.heap.size+1) (w.alloc (.cells #[.int .i64 nodes, .slice A N c] 68)) wr) (fun i _ => N - (intOf i).toNat)
    case atStart => exact ⟨0, Nat.zero_le _, rfl, rfl, Below.refl _ _⟩
    case round =>
      obtain ⟨k, hk, rfl, hall, hb⟩ := hrel
      have Hall := Lib.hid hall; clear hall
      have hR' : Rd 3 encE wr A es := hR.keep1 hb
      have hbw : Below w.heap.size w wr := ((Below.refl _ w).alloc (Nat.le_refl _) _).trans (hb.mono (by omega))
      have hc0 : wr.cell? ⟨w.heap.size, 0, none⟩ = some (.int .i64 nodes) := (hb.cell (p := ⟨w.heap.size, 0, none⟩) (by simp)).trans (by go_simp)
      have hz : w.heap.size < wr.heap.size := by have := hb.size; simp at this; omega
      by_cases hlt : k < N
      · obtain ⟨b, off, e, rfl, hbl, he, g0, g1, g2⟩ := rdE_at hR' (k := k) (by rw [HN.out]; exact hlt)
        have He := Lib.hid he; clear he
        by_cases hok : okE nodes e = true
        · have Hok := Lib.hid hok
          obtain ⟨o1, o2, o3, o4, o5, o6⟩ := okE_iff.1 hok
          clear hok
          go_wp2
          go_roundw
          case rel => exact ⟨k + 1, hlt, natcast_succ k, all_snoc He.out Hall.out Hok.out, hb.alloc (by omega) _⟩
          case measure => simp [intOf]; omega
        · have hok' : okE nodes e = false := by simpa using hok
          have Hok := Lib.hid hok'; clear hok hok'
          go_wp2
          all_goals first
            | (go_ret
               exact ⟨ret_bool (by rw [Hg.out, all_not He.out Hok.out]), hbw.alloc (Nat.le_of_lt hz) _⟩)
            | (exfalso; have := Hok.out; simp only [okE, decide_eq_false_iff_not] at this; omega)
      · obtain rfl : k = N := by omega
        go_wp2
        go_ret
        exact ⟨ret_bool (by rw [Hg.out, ← Hall.out, List.take_of_length_le (by rw [HN.out]; exact Nat.le_refl _)]), hbw⟩
  · have Hg : Hid (okG nodes es = false) := by
      unfold Hid okG; rw [hN]; simp only [Bool.and_eq_false_iff, decide_eq_false_iff_not]; exact .inl h1
    clear hN
    have h1' : nodes < 1 ∨ 64 < nodes ∨ 512 < N := by omega
    clear h1
    rcases h1' with h | h | h
    all_goals
      go_enter Try.func96, Try.ntmps96
      go_wp2
      all_goals first
        | (go_ret; exact ⟨ret_bool Hg.out.symm, (Below.refl _ w).alloc (Nat.le_refl _) _⟩)
        | skip
end Go.Proofs.Ytgfcnkfmgpakkaa
/-
Contracts of the reference's Valid and Ends, and of the program's ends.
-/
namespace Go.Proofs.Ytgfcnkfmgpakkaa
open Go.RowKit

set_option maxHeartbeats 800000 in
theorem rfValid_any (nodes : Int) (A : Option Addr) (c N : Nat) (es : List GEdge) (w : World) (hR : Rd 3 encE w A es) (hN : es.length = N) (hl : N ≤ 9223372036854775807) :
    Calls Try.prog 121 #[.agg #[.int .i64 nodes, .slice A N c]] w fun e w' => e = .returned (.bool (okG nodes es)) ∧ Below w.heap.size w w' := by
  have HN := Lib.hid hN
  by_cases h1 : 1 ≤ nodes ∧ nodes ≤ 64 ∧ N ≤ 512
  · obtain ⟨h1, h2, h3⟩ := h1
    have Hg : Hid (okG nodes es = es.all (okE nodes)) := by unfold Hid okG; rw [hN]; simp [h1, h2, h3]
    clear hN
    go_enter Try.func121, Try.ntmps121
    go_wp2
    go_loopw [3] (fun i wr => ∃ k : Nat, k ≤ N ∧ i = .int .i64 k ∧ (es.take k).all (okE nodes) = true ∧ Below (w.heap.size+1) (w.alloc (.cells #[.int .i64 nodes, .slice A N c] 68)) wr) (fun i _ => N - (intOf i).toNat)
    case atStart => exact ⟨0, Nat.zero_le _, rfl, rfl, Below.refl _ _⟩
    case round =>
      obtain ⟨k, hk, rfl, hall, hb⟩ := hrel
      have Hall := Lib.hid hall; clear hall
      have hR' : Rd 3 encE wr A es := hR.keep1 hb
      have hbw : Below w.heap.size w wr := ((Below.refl _ w).alloc (Nat.le_refl _) _).trans (hb.mono (by omega))
      have hc0 : wr.cell? ⟨w.heap.size, 0, none⟩ = some (.int .i64 nodes) := (hb.cell (p := ⟨w.heap.size, 0, none⟩) (by simp)).trans (by go_simp)
      have hc1 : wr.cell? ⟨w.heap.size, 1, none⟩ = some (.slice A N c) := (hb.cell (p := ⟨w.heap.size, 1, none⟩) (by simp)).trans (by go_simp)
      have hz : w.heap.size < wr.heap.size := by have := hb.size; simp at this; omega
      by_cases hlt : k < N
      · obtain ⟨b, off, e, rfl, hbl, he, g0, g1, g2⟩ := rdE_at hR' (k := k) (by rw [HN.out]; exact hlt)
        have He := Lib.hid he; clear he
        by_cases hok : okE nodes e = true
        · have Hok := Lib.hid hok
          obtain ⟨o1, o2, o3, o4, o5, o6⟩ := okE_iff.1 hok
          clear hok
          go_wp2
          go_roundw
          case rel => exact ⟨k + 1, hlt, natcast_succ k, all_snoc He.out Hall.out Hok.out, hb.alloc (by omega) _⟩
          case measure => simp [intOf]; omega
        · have hok' : okE nodes e = false := by simpa using hok
          have Hok := Lib.hid hok'; clear hok hok'
          go_wp2
          all_goals first
            | (go_ret
               exact ⟨ret_bool (by rw [Hg.out, all_not He.out Hok.out]), hbw.alloc (Nat.le_of_lt hz) _⟩)
            | (exfalso; have := Hok.out; simp only [okE, decide_eq_false_iff_not] at this; omega)
      · obtain rfl : k = N := by omega
        go_wp2
        go_ret
        exact ⟨ret_bool (by rw [Hg.out, ← Hall.out, List.take_of_length_le (by rw [HN.out]; exact Nat.le_refl _)]), hbw⟩
  · have Hg : Hid (okG nodes es = false) := by
      unfold Hid okG; rw [hN]; simp only [Bool.and_eq_false_iff, decide_eq_false_iff_not]; exact .inl h1
    clear hN
    have h1' : nodes < 1 ∨ 64 < nodes ∨ 512 < N := by omega
    clear h1
    rcases h1' with h | h | h
    all_goals
      go_enter Try.func121, Try.ntmps121
      go_wp2
      all_goals first
        | (go_ret; exact ⟨ret_bool Hg.out.symm, (Below.refl _ w).alloc (Nat.le_refl _) _⟩)
        | skip

set_option maxHeartbeats 800000 in
theorem rfEnds_any (nodes s t : Int) (A : Option Addr) (c N : Nat) (es : List GEdge) (w : World) (hR : Rd 3 encE w A es) (hN : es.length = N) (hl : N ≤ 9223372036854775807) :
    Calls Try.prog 101 #[.agg #[.int .i64 nodes, .slice A N c], .int .i64 s, .int .i64 t] w fun e w' => e = .returned (.bool (okEnds nodes es s t)) ∧ Below w.heap.size w w' := by
  have HN := Lib.hid hN; clear hN
  have HE : Hid (okEnds nodes es s t = (okG nodes es && decide (0 ≤ s) && decide (s < nodes) && decide (0 ≤ t) && decide (t < nodes) && (s != t))) := by
    unfold Hid okEnds
    cases okG nodes es <;> simp [Bool.and_assoc, bne]
    rw [Bool.eq_iff_iff]; simp
  generalize hE : okEnds nodes es s t = E at *
  clear hE
  have hR' := hR.keep ((Below.refl _ w).alloc (Nat.le_refl _) (.cells #[.int .i64 nodes, .slice A N c] 68))
  go_enter Try.func101, Try.ntmps101
  go_wp2_with fail
  refine (rfValid_any nodes A c N es _ hR' HN.out hl).mono ?_
  rintro e w' ⟨rfl, hb⟩
  have hbw : Below w.heap.size w w' := below_then ((Below.refl _ w).alloc (Nat.le_refl _) _) hb
  have hc0 : w'.cell? ⟨w.heap.size, 0, none⟩ = some (.int .i64 nodes) := (hb.cell (p := ⟨w.heap.size, 0, none⟩) (by simp)).trans (by go_simp)
  clear hb hR hR' HN
  generalize okG nodes es = V at *
  cases V
  · go_wp2
    go_ret
    exact ⟨ret_bool (by rw [HE.out]; simp), hbw⟩
  · go_wp2
    all_goals
      go_ret
      exact ⟨ret_bool (by rw [HE.out, Bool.eq_iff_iff]; simp; omega), hbw⟩

set_option maxHeartbeats 800000 in
theorem fEnds_any (nodes s t : Int) (A : Option Addr) (c N : Nat) (es : List GEdge) (w : World) (hR : Rd 3 encE w A es) (hN : es.length = N) (hl : N ≤ 9223372036854775807) :
    Calls Try.prog 83 #[.agg #[.int .i64 nodes, .slice A N c], .int .i64 s, .int .i64 t] w fun e w' => e = .returned (.bool (okEnds nodes es s t)) ∧ Below w.heap.size w w' := by
  have HN := Lib.hid hN; clear hN
  have HE : Hid (okEnds nodes es s t = (okG nodes es && decide (0 ≤ s) && decide (s < nodes) && decide (0 ≤ t) && decide (t < nodes) && (s != t))) := by
    unfold Hid okEnds
    cases okG nodes es <;> simp [Bool.and_assoc, bne]
    rw [Bool.eq_iff_iff]; simp
  generalize hE : okEnds nodes es s t = E at *
  clear hE
  have hR' := hR.keep ((Below.refl _ w).alloc (Nat.le_refl _) (.cells #[.int .i64 nodes, .slice A N c] 68))
  go_enter Try.func83, Try.ntmps83
  go_wp2_with fail
  refine (fValid_any nodes A c N es _ hR' HN.out hl).mono ?_
  rintro e w' ⟨rfl, hb⟩
  have hbw : Below w.heap.size w w' := below_then ((Below.refl _ w).alloc (Nat.le_refl _) _) hb
  have hc0 : w'.cell? ⟨w.heap.size, 0, none⟩ = some (.int .i64 nodes) := (hb.cell (p := ⟨w.heap.size, 0, none⟩) (by simp)).trans (by go_simp)
  clear hb hR hR' HN
  generalize okG nodes es = V at *
  cases V
  · go_wp2
    go_ret
    exact ⟨ret_bool (by rw [HE.out]; simp), hbw⟩
  · go_wp2
    all_goals
      go_ret
      exact ⟨ret_bool (by rw [HE.out, Bool.eq_iff_iff]; simp; omega), hbw⟩
end Go.Proofs.Ytgfcnkfmgpakkaa
/-
Contract of the reference's Amount.
-/
namespace Go.Proofs.Ytgfcnkfmgpakkaa
open Go.RowKit

theorem term_bound {es : List GEdge} {fl : List Int} {u : Int} {i : Nat} (h : 0 ≤ fAt fl i ∧ fAt fl i ≤ 1000000) : -1000000 ≤ term es fl u i ∧ term es fl u i ≤ 1000000 := by
  unfold term pick; split <;> split <;> omega
theorem S_term_bound {es : List GEdge} {fl : List Int} {u : Int} {k N : Nat} (hk : k ≤ N) (hN : N ≤ 512) (h : ∀ i, i < N → 0 ≤ fAt fl i ∧ fAt fl i ≤ 1000000) : -512000000 ≤ S k (term es fl u) ∧ S k (term es fl u) ≤ 512000000 := by
  have h1 := S_bound (n := k) (fun i hi => (term_bound (es := es) (u := u) (h i (by omega))).2)
  have h2 := S_lower (n := k) (fun i hi => (term_bound (es := es) (u := u) (h i (by omega))).1)
  omega
theorem term_step {es : List GEdge} {fl : List Int} {u x : Int} {k : Nat} {e : GEdge} (he : es[k]? = some e) (hx : fl[k]?.getD 0 = x) :
    S (k + 1) (term es fl u) = S k (term es fl u) + (pick (e.frm = u) x - pick (e.to = u) x) := by
  rw [S_succ]; unfold term eAt fAt; rw [he, hx]; rfl

set_option maxHeartbeats 800000 in
theorem rfAmount_any (nodes s : Int) (A A2 : Option Addr) (c c2 N : Nat) (es : List GEdge) (fl : List Int) (w : World) (hR : Rd 3 encE w A es) (hN : es.length = N) (hl : N ≤ 512)
    (hR2 : Rd 1 encI w A2 fl) (hN2 : fl.length = N) (hfl : ∀ i, i < N → 0 ≤ fAt fl i ∧ fAt fl i ≤ 1000000) :
    Calls Try.prog 103 #[.agg #[.int .i64 nodes, .slice A N c], .int .i64 s, .slice A2 N c2] w fun e w' => e = .returned (.int .i64 (net es fl s)) ∧ Below w.heap.size w w' := by
  have Hnet : Hid (net es fl s = S N (term es fl s)) := by unfold Hid net; rw [hN]
  have HN := Lib.hid hN; clear hN
  have HN2 := Lib.hid hN2; clear hN2
  have Hfl := Lib.hid hfl; clear hfl
  go_enter Try.func103, Try.ntmps103
  go_wp2
  go_loopw [7, 8] (fun v i wr => ∃ k : Nat, k ≤ N ∧ i = .int .i64 k ∧ v = .int .i64 (S k (term es fl s)) ∧ Below (w.heap.size+1) (w.alloc (.cells #[.int .i64 nodes, .slice A N c] 68)) wr) (fun _ i _ => N - (intOf i).toNat)
  case atStart => exact ⟨0, Nat.zero_le _, rfl, rfl, Below.refl _ _⟩
  case round =>
    obtain ⟨k, hk, rfl, rfl, hb⟩ := hrel
    have hR' : Rd 3 encE wr A es := hR.keep1 hb
    have hR2' : Rd 1 encI wr A2 fl := hR2.keep1 hb
    have hbw : Below w.heap.size w wr := ((Below.refl _ w).alloc (Nat.le_refl _) _).trans (hb.mono (by omega))
    have hc1 : wr.cell? ⟨w.heap.size, 1, none⟩ = some (.slice A N c) := (hb.cell (p := ⟨w.heap.size, 1, none⟩) (by simp)).trans (by go_simp)
    have hz : w.heap.size < wr.heap.size := by have := hb.size; simp at this; omega
    by_cases hlt : k < N
    · obtain ⟨b, off, e, rfl, hbl, he, g0, g1, g2⟩ := rdE_at hR' (k := k) (by rw [HN.out]; exact hlt)
      obtain ⟨b2, off2, rfl, hbl2, q0⟩ := hR2'.int (k := k) (by rw [HN2.out]; exact hlt)
      obtain ⟨x1, x2⟩ := Hfl.out k hlt
      have st := term_step (fl := fl) (u := s) he rfl
      obtain ⟨v1, v2⟩ := S_term_bound (es := es) (u := s) hk hl Hfl.out
      unfold fAt at x1 x2
      generalize hx : fl[k]?.getD 0 = x at *
      have Hst := Lib.hid st; clear st hx he
      generalize S k (term es fl s) = v at *
      go_wp2
      all_goals
        go_roundw
        case rel => exact ⟨k + 1, hlt, natcast_succ k, val_int (by rw [Hst.out]; simp only [beq_iff_eq, beq_eq_false_iff_ne, ne_eq] at *; unfold pick; (repeat' split) <;> omega), hb⟩
        case measure => simp [intOf]; omega
    · obtain rfl : k = N := by omega
      go_wp2
      go_ret
      exact ⟨ret_int Hnet.out.symm, hbw⟩
end Go.Proofs.Ytgfcnkfmgpakkaa
/-
Small facts on memory.
-/
namespace Go.Proofs.Ytgfcnkfmgpakkaa
open Go.RowKit
theorem infoInt : (Try.prog.info? 3).map (fun i => (i.zero, i.size, i.bytes)) = some (some (.int .i64 0), 1, 8) := by kernel_rfl
theorem cell_other {w : World} {p q : Addr} (h : q.block ≠ p.block) (u : Value) : (w.setCell p u).cell? q = w.cell? q := World.cell?_of_block (Below.heap_setCell w p u q.block h)
theorem if_val {c : Prop} [Decidable c] (x y : Int) : (if c then Value.int .i64 x else Value.int .i64 y) = Value.int .i64 (if c then x else y) := by split <;> rfl
end Go.Proofs.Ytgfcnkfmgpakkaa
