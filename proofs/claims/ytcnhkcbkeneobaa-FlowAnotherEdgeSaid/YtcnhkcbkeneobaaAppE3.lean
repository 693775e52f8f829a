/-
A made slice with room, and many edges appended at once.
-/
import Derived.Test.YtcnhkcbkeneobaaAppE2
namespace Go.Proofs.Ytcnhkcbkeneobaa
open Go.RowKit
/-- make([]T, 0, n). -/
theorem mk_empty {P : Program} (t e : TypeId) (z : Value) (sz bytes : Nat) (ht : P.underlying t = some (.slice e)) (hinfo : (P.info? e).map (fun i => (i.zero, i.size, i.bytes)) = some (some z, sz, bytes))
    (zc : Array Value) (hzc : z.cells = zc) (n : Nat) (hb : (bytes : Int) * (n : Int) ≤ 281474976710656) (h63 : (n : Int) ≤ 9223372036854775807) (W : World) :
    (Instr.makeSlice t (.int .i64 0) (.int .i64 n)).run P W = .ok (.slice (some ⟨W.heap.size, 0, none⟩) 0 n) (W.alloc (.cells (madeCells zc (n * sz)) e)) := by
  subst hzc
  obtain ⟨i, hi, hzz⟩ := Option.map_eq_some_iff.1 hinfo
  simp only [Prod.mk.injEq] at hzz
  obtain ⟨hz, hs, hbb⟩ := hzz
  have := run_make W t e i z ht hi hz .i64 .i64 0 n (by omega) (by omega) (by rw [hbb]; exact hb) h63
  rw [hs] at this
  exact this
theorem wide_cell {w : World} {base g cap N q : Nat} {es : List GEdge} (h : OwnE w base (.slice (some ⟨g, 0, none⟩) N cap) es) (hN : es.length = N) (hq : q < N) :
    w.cell? ⟨g, q * 3 + 2, none⟩ = some (.int .i64 (eAt es q).cap) ∧ w.frozen? ⟨g, q * 3 + 2, none⟩ = false := by
  subst hN
  have h' : w.ownsRow base 39 3 (.slice (some ⟨g, 0, none⟩) es.length cap) es.length (es.flatMap encE) := h
  refine ⟨?_, h'.frozenAt _⟩
  rw [h'.cellAt _ (by omega), flatR_at encE_len es q 2 (eAt es q) _ (by rw [eAt_lt hq]; exact List.getElem?_eq_getElem hq) rfl]
theorem wide_rd {w : World} {base g cap N q : Nat} {es : List GEdge} (h : OwnE w base (.slice (some ⟨g, 0, none⟩) N cap) es) (hN : es.length = N) (hq : q < N) (c' : Int) :
    Rd 3 encE (w.setCell ⟨g, q * 3 + 2, none⟩ (.int .i64 c')) (some ⟨g, 0, none⟩) (wide es q c') := by
  subst hN
  have h' : w.ownsRow base 39 3 (.slice (some ⟨g, 0, none⟩) es.length cap) es.length (es.flatMap encE) := h
  have h2 := (h'.stored (q * 3 + 2) (.int .i64 c')).1
  intro _
  obtain ⟨g', cap', e, _, hlt⟩ := World.ownsRow.form h2 (by omega)
  injection e with e
  injection e with e
  injection e with e
  subst e
  refine ⟨g, 0, rfl, hlt, fun k x hx j v hv => ?_⟩
  have hk : k < es.length := by have := (List.getElem?_eq_some_iff.1 hx).1; rwa [wide_len] at this
  have hj : j < 3 := (List.getElem?_eq_some_iff.1 hv).1
  have hxe : x = eAt (wide es q c') k := by unfold eAt; rw [hx]; rfl
  rw [wide_e hq] at hxe
  rw [Nat.zero_add, h2.cellAt _ (by omega), List.getElem?_set]
  by_cases he : q * 3 + 2 = k * 3 + j
  · have e1 : k = q := by omega
    have e2 : j = 2 := by omega
    subst e1 e2
    rw [if_pos rfl] at hxe
    subst hxe
    simp [encE] at hv
    rw [if_pos rfl, if_pos (by rw [flatR_len encE_len]; omega), ← hv]
  · rw [if_neg he]
    refine flatR_at encE_len es k j (eAt es k) v (by rw [eAt_lt hk]; exact List.getElem?_eq_getElem hk) ?_
    by_cases hkq : k = q
    · subst hkq
      rw [if_pos rfl] at hxe
      subst hxe
      match j, hj, he with
      | 0, _, _ => exact hv
      | 1, _, _ => exact hv
      | 2, _, he => exact absurd rfl he
    · rw [if_neg hkq] at hxe
      subst hxe
      exact hv
end Go.Proofs.Ytcnhkcbkeneobaa
