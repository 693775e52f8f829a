/-
Contracts of the reference's Amount, Capacity and Cut.
-/
import Derived.Test.YtcnhkcbkeneobaaFlowB
namespace Go.Proofs.Ytcnhkcbkeneobaa
open Go.RowKit

theorem term_bound {es : List GEdge} {fl : List Int} {u : Int} {i : Nat} (h : 0 ≤ fAt fl i ∧ fAt fl i ≤ 1000000) : -1000000 ≤ term es fl u i ∧ term es fl u i ≤ 1000000 := by
  unfold term pick; split <;> split <;> omega
theorem S_term_bound {es : List GEdge} {fl : List Int} {u : Int} {k N : Nat} (hk : k ≤ N) (hN : N ≤ 512) (h : ∀ i, i < N → 0 ≤ fAt fl i ∧ fAt fl i ≤ 1000000) : -512000000 ≤ S k (term es fl u) ∧ S k (term es fl u) ≤ 512000000 := by
  have h1 := S_bound (n := k) (fun i hi => (term_bound (es := es) (u := u) (h i (by omega))).2)
  have h2 := S_lower (n := k) (fun i hi => (term_bound (es := es) (u := u) (h i (by omega))).1)
  omega
theorem term_step {es : List GEdge} {fl : List Int} {u x : Int} {k : Nat} {e : GEdge} (he : es[k]? = some e) (hx : fl[k]?.getD 0 = x) :
    S (k + 1) (term es fl u) = S k (term es fl u) + (pick (e.frm = u) x - pick (e.to = u) x) := by
  rw [S_succ]; unfold term eAt fAt; rw [he, hx]; rfl

set_option maxHeartbeats 800000 in
theorem rfAmount_any (nodes s : Int) (A A2 : Option Addr) (c c2 N : Nat) (es : List GEdge) (fl : List Int) (w : World) (hR : Rd 3 encE w A es) (hN : es.length = N) (hl : N ≤ 512)
    (hR2 : Rd 1 encI w A2 fl) (hN2 : fl.length = N) (hfl : ∀ i, i < N → 0 ≤ fAt fl i ∧ fAt fl i ≤ 1000000) :
    Calls Try.prog 21 #[.agg #[.int .i64 nodes, .slice A N c], .int .i64 s, .slice A2 N c2] w fun e w' => e = .returned (.int .i64 (net es fl s)) ∧ Below w.heap.size w w' := by
  have Hnet : Hid (net es fl s = S N (term es fl s)) := by unfold Hid net; rw [hN]
  have HN := Lib.hid hN; clear hN
  have HN2 := Lib.hid hN2; clear hN2
  have Hfl := Lib.hid hfl; clear hfl
  go_enter Try.func21, Try.ntmps21
  go_wp2
  go_loopw [7, 8] (fun v i wr => ∃ k : Nat, k ≤ N ∧ i = .int .i64 k ∧ v = .int .i64 (S k (term es fl s)) ∧ Below (w.heap.size+1) (w.alloc (.cells #[.int .i64 nodes, .slice A N c] 24)) wr) (fun _ i _ => N - (intOf i).toNat)
  case atStart => exact ⟨0, Nat.zero_le _, rfl, rfl, Below.refl _ _⟩
  case round =>
    obtain ⟨k, hk, rfl, rfl, hb⟩ := hrel
    have hR' : Rd 3 encE wr A es := hR.keep1 hb
    have hR2' : Rd 1 encI wr A2 fl := hR2.keep1 hb
    have hbw : Below w.heap.size w wr := ((Below.refl _ w).alloc (Nat.le_refl _) _).trans (hb.mono (by omega))
    have hc1 : wr.cell? ⟨w.heap.size, 1, none⟩ = some (.slice A N c) := (hb.cell (p := ⟨w.heap.size, 1, none⟩) (by simp)).trans (by go_simp)
    have hz : w.heap.size < wr.heap.size := by have := hb.size; simp at this; omega
    by_cases hlt : k < N
    · obtain ⟨b, off, e, rfl, hbl, he, g0, g1, g2⟩ := rdE_at hR' (k := k) (by rw [HN.out]; exact hlt)
      obtain ⟨b2, off2, rfl, hbl2, q0⟩ := hR2'.int (k := k) (by rw [HN2.out]; exact hlt)
      obtain ⟨x1, x2⟩ := Hfl.out k hlt
      have st := term_step (fl := fl) (u := s) he rfl
      obtain ⟨v1, v2⟩ := S_term_bound (es := es) (u := s) hk hl Hfl.out
      unfold fAt at x1 x2
      generalize hx : fl[k]?.getD 0 = x at *
      have Hst := Lib.hid st; clear st hx he
      generalize S k (term es fl s) = v at *
      go_wp2
      all_goals
        go_roundw
        case rel => exact ⟨k + 1, hlt, natcast_succ k, val_int (by rw [Hst.out]; simp only [beq_iff_eq, beq_eq_false_iff_ne, ne_eq] at *; unfold pick; (repeat' split) <;> omega), hb⟩
        case measure => simp [intOf]; omega
    · obtain rfl : k = N := by omega
      go_wp2
      go_ret
      exact ⟨ret_int Hnet.out.symm, hbw⟩

theorem cap_step {es : List GEdge} {side : List Bool} {k : Nat} {e : GEdge} (he : es[k]? = some e) :
    S (k + 1) (fun i => pick (crossing side (eAt es i) = true) (eAt es i).cap) = S k (fun i => pick (crossing side (eAt es i) = true) (eAt es i).cap) + pick (crossing side e = true) e.cap := by
  rw [S_succ]; unfold eAt; rw [he]; rfl
theorem cap_bound {nodes : Int} {es : List GEdge} (side : List Bool) {k : Nat} (h : okG nodes es = true) (hk : k ≤ es.length) :
    0 ≤ S k (fun i => pick (crossing side (eAt es i) = true) (eAt es i).cap) ∧ S k (fun i => pick (crossing side (eAt es i) = true) (eAt es i).cap) ≤ 512000000 := by
  have a : ∀ i, i < k → 0 ≤ pick (crossing side (eAt es i) = true) (eAt es i).cap ∧ pick (crossing side (eAt es i) = true) (eAt es i).cap ≤ 1000000 := by
    intro i hi
    have := okG_at h (i := i) (by omega)
    unfold pick; split <;> omega
  have h1 := S_bound (n := k) (fun i hi => (a i hi).2)
  have h2 := S_nonneg (n := k) (fun i hi => (a i hi).1)
  have := (okG_iff.1 h).1.2.2
  omega
theorem sAt_get {side : List Bool} {u : Int} : sAt side u = side[u.toNat]?.getD false := rfl

set_option maxHeartbeats 800000 in
theorem rfCapacity_any (nodes : Int) (A A2 : Option Addr) (c c2 N M : Nat) (es : List GEdge) (side : List Bool) (w : World) (hR : Rd 3 encE w A es) (hN : es.length = N) (hg : okG nodes es = true)
    (hR2 : Rd 1 encB w A2 side) (hN2 : side.length = M) (hM : (M : Int) = nodes) :
    Calls Try.prog 22 #[.agg #[.int .i64 nodes, .slice A N c], .slice A2 M c2] w fun e w' => e = .returned (.int .i64 (capac es side)) ∧ Below w.heap.size w w' := by
  have Hnet : Hid (capac es side = S N (fun i => pick (crossing side (eAt es i) = true) (eAt es i).cap)) := by unfold Hid capac; rw [hN]
  have hl := (okG_iff.1 hg).1.2.2
  rw [hN] at hl
  have HN := Lib.hid hN; clear hN
  have HN2 := Lib.hid hN2; clear hN2
  have HM := Lib.hid hM; clear hM
  have Hg := Lib.hid hg; clear hg
  go_enter Try.func22, Try.ntmps22
  go_wp2
  go_loopw [5, 6] (fun v i wr => ∃ k : Nat, k ≤ N ∧ i = .int .i64 k ∧ v = .int .i64 (S k (fun i => pick (crossing side (eAt es i) = true) (eAt es i).cap)) ∧ Below (w.heap.size+1) (w.alloc (.cells #[.int .i64 nodes, .slice A N c] 24)) wr) (fun _ i _ => N - (intOf i).toNat)
  case atStart => exact ⟨0, Nat.zero_le _, rfl, rfl, Below.refl _ _⟩
  case round =>
    obtain ⟨k, hk, rfl, rfl, hb⟩ := hrel
    have hR' : Rd 3 encE wr A es := hR.keep1 hb
    have hR2' : Rd 1 encB wr A2 side := hR2.keep1 hb
    have hbw : Below w.heap.size w wr := ((Below.refl _ w).alloc (Nat.le_refl _) _).trans (hb.mono (by omega))
    have hc1 : wr.cell? ⟨w.heap.size, 1, none⟩ = some (.slice A N c) := (hb.cell (p := ⟨w.heap.size, 1, none⟩) (by simp)).trans (by go_simp)
    have hz : w.heap.size < wr.heap.size := by have := hb.size; simp at this; omega
    by_cases hlt : k < N
    · obtain ⟨b, off, e, rfl, hbl, he, g0, g1, g2⟩ := rdE_at hR' (k := k) (by rw [HN.out]; exact hlt)
      have st := cap_step (side := side) he
      obtain ⟨v1, v2⟩ := cap_bound side (k := k) Hg.out (by rw [HN.out]; exact hk)
      have ok := okG_at Hg.out (i := k) (by rw [HN.out]; exact hlt)
      unfold eAt at ok
      rw [he] at ok
      obtain ⟨o1, o2, o3, o4, o5, o6⟩ := ok
      simp only [Option.getD_some] at o1 o2 o3 o4 o5 o6
      have hM := HM.out
      obtain ⟨b2, off2, rfl, hbl2, q0⟩ := hR2'.bool (k := e.frm.toNat) (by rw [HN2.out]; omega)
      obtain ⟨_, _, e2, _, q1⟩ := hR2'.bool (k := e.to.toNat) (by rw [HN2.out]; omega)
      cases e2
      have r1 : e.frm < (M : Int) := by omega
      have r2 : e.to < (M : Int) := by omega
      clear hM
      have Hst := Lib.hid st; clear st he
      rw [← sAt_get] at q0 q1
      generalize S k (fun i => pick (crossing side (eAt es i) = true) (eAt es i).cap) = v at *
      have Hx : Hid (crossing side e = (sAt side e.frm && !sAt side e.to)) := rfl
      cases hs1 : sAt side e.frm <;> cases hs2 : sAt side e.to
      all_goals
        rw [hs1] at q0; rw [hs2] at q1
        have Hx2 := Hx.out
        rw [hs1, hs2] at Hx2
        have Hx3 := Lib.hid Hx2
        clear hs1 hs2 Hx Hx2
        go_wp2
        go_roundw
        case rel => exact ⟨k + 1, hlt, natcast_succ k, val_int (by rw [Hst.out, Hx3.out]; unfold pick; simp), hb⟩
        case measure => simp [intOf]; omega
    · obtain rfl : k = N := by omega
      go_wp2
      go_ret
      exact ⟨ret_int Hnet.out.symm, hbw⟩

def cutB (nodes s t : Int) (side : List Bool) : Bool := decide ((side.length : Int) = nodes) && (sAt side s && !sAt side t)
theorem cutB_iff {nodes s t : Int} {side : List Bool} : cutB nodes s t side = true ↔ IsCut nodes s t side := by
  constructor
  · intro h
    simp only [cutB, Bool.and_eq_true, decide_eq_true_eq, Bool.not_eq_true'] at h
    exact ⟨h.1, h.2.1, h.2.2⟩
  · rintro ⟨a, b, c⟩
    simp [cutB, a, b, c]

set_option maxHeartbeats 800000 in
theorem rfCut_any (nodes s t : Int) (A A2 : Option Addr) (c c2 N M : Nat) (side : List Bool) (w : World) (hs : 0 ≤ s ∧ s < nodes) (ht : 0 ≤ t ∧ t < nodes)
    (hR2 : Rd 1 encB w A2 side) (hN2 : side.length = M) :
    Calls Try.prog 20 #[.agg #[.int .i64 nodes, .slice A N c], .int .i64 s, .int .i64 t, .slice A2 M c2] w fun e w' => e = .returned (.bool (cutB nodes s t side)) ∧ Below w.heap.size w w' := by
  obtain ⟨s1, s2⟩ := hs
  obtain ⟨t1, t2⟩ := ht
  by_cases hM : (M : Int) = nodes
  · have hbM : ((M : Int) == nodes) = true := by simpa using hM
    obtain ⟨b2, off2, rfl, hbl2, q0⟩ := hR2.bool (k := s.toNat) (by rw [hN2]; omega)
    obtain ⟨_, _, e2, _, q1⟩ := hR2.bool (k := t.toNat) (by rw [hN2]; omega)
    cases e2
    have r1 : s < (M : Int) := by omega
    have r2 : t < (M : Int) := by omega
    rw [← sAt_get] at q0 q1
    have Hc : Hid (cutB nodes s t side = (sAt side s && !sAt side t)) := by unfold Hid cutB; rw [hN2, hM]; simp
    clear hM hN2
    generalize sAt side s = B1 at *
    generalize sAt side t = B2 at *
    cases B1
    all_goals
      go_enter Try.func20, Try.ntmps20
      go_wp2
      go_ret
      exact ⟨ret_bool (by rw [Hc.out]; simp), (Below.refl _ w).alloc (Nat.le_refl _) _⟩
  · have hbM : ((M : Int) == nodes) = false := by simpa using hM
    have Hc : Hid (cutB nodes s t side = false) := by unfold Hid cutB; rw [hN2]; simp [hM]
    clear hM hN2
    go_enter Try.func20, Try.ntmps20
    go_wp2
    go_ret
    exact ⟨ret_bool (by rw [Hc.out]), (Below.refl _ w).alloc (Nat.le_refl _) _⟩
end Go.Proofs.Ytcnhkcbkeneobaa
