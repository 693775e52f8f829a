/-
make, append the edges of a graph, append some more: in each of the three orders in which the new blocks may be laid.
-/
import Derived.Test.YtcnhkcbkeneobaaAppE3
import Derived.Test.YtcnhkcbkeneobaaFlowR
namespace Go.Proofs.Ytcnhkcbkeneobaa
open Go.RowKit
theorem app_es {W : World} {base c N : Nat} {v : Value} {A : Option Addr} {es : List GEdge} (own : OwnE W base v []) (rd : Rd 3 encE W A es) (hN : es.length = N) (hl : N ≤ 512) (hb : base ≤ W.heap.size) :
    Appends Try.prog W 22 22 v (.slice A N c) ∧ ∃ v' W', appV Try.prog W 22 22 v (.slice A N c) = v' ∧ appW Try.prog W 22 22 v (.slice A N c) = W' ∧ OwnE W' base v' es ∧ Mod (fun k => v.ownBlock = some k) W W' ∧ (v'.ownBlock = v.ownBlock ∨ v'.ownBlock = some W.heap.size) := by
  cases A with
  | none =>
    have h0 : N = 0 := by
      rcases Nat.eq_zero_or_pos N with h | h
      · exact h
      · obtain ⟨_, _, e, _⟩ := rd (by omega)
        cases e
    subst h0
    obtain rfl : es = [] := List.length_eq_zero_iff.1 hN
    obtain ⟨h1, h2, h3⟩ := app_none (P := Try.prog) (ty := 22) (c := c) appInfoEdge Try.underlying22 own
    exact ⟨h1, v, W, h2, h3, own, Mod.refl _ _, .inl rfl⟩
  | some a =>
    obtain ⟨h1, v', w1, e1, e2, e3, e4, e5⟩ := app_rows (P := Try.prog) (ty := 22) (c := c) (m := N) appInfoEdge Try.underlying22 rfl (by omega) encE_len encE_one own rd hN ⟨_, rfl⟩ hb (by simp; unfold maxLen; omega) (by simp; omega)
    exact ⟨h1, v', w1, e1, e2, e3, e4, e5⟩
/-- The literal lies in W already. -/
theorem app_ab {W : World} {base c N L m : Nat} {v : Value} {A : Option Addr} {es ys : List GEdge} (own : OwnE W base v []) (rd : Rd 3 encE W A es) (hN : es.length = N) (hl : N ≤ 512) (hb : base ≤ W.heap.size)
    (rdl : Rd 3 encE W (some ⟨L, 0, none⟩) ys) (hm : ys.length = m) (hm2 : m ≤ 100) (hL : v.ownBlock ≠ some L) :
    Appends Try.prog W 22 22 v (.slice A N c) ∧ ∃ v1 W1, appV Try.prog W 22 22 v (.slice A N c) = v1 ∧ appW Try.prog W 22 22 v (.slice A N c) = W1 ∧
      Appends Try.prog W1 22 22 v1 (.slice (some ⟨L, 0, none⟩) m m) ∧ ∃ v2 W2, appV Try.prog W1 22 22 v1 (.slice (some ⟨L, 0, none⟩) m m) = v2 ∧ appW Try.prog W1 22 22 v1 (.slice (some ⟨L, 0, none⟩) m m) = W2 ∧
        Hid (OwnE W2 base v2 (es ++ ys)) ∧ Below base W W1 ∧ Below base W W2 := by
  obtain ⟨h1, v1, W1, e1, e2, e3, e4, e5⟩ := app_es (c := c) own rd hN hl hb
  have hb1 : base ≤ W1.heap.size := Nat.le_trans hb e4.size
  obtain ⟨g1, v2, W2, d1, d2, d3, d4, _⟩ := app_rows (P := Try.prog) (ty := 22) (c := m) (m := m) appInfoEdge Try.underlying22 rfl (by omega) encE_len encE_one e3 (rdl.mod e4 (fun a ha _ => by injection ha with ha; subst ha; exact hL)) hm ⟨_, rfl⟩ hb1 (by unfold maxLen; omega) (by omega)
  have b1 : Below base W W1 := OwnR.below own e4 hb
  exact ⟨h1, v1, W1, e1, e2, g1, v2, W2, d1, d2, Lib.hid d3, b1, b1.trans (OwnR.below e3 d4 hb1)⟩
/-- The literal is laid behind the first append. -/
theorem app_c {W : World} {base c N m : Nat} {v : Value} {A : Option Addr} {es ys : List GEdge} {lit : Array Value} (own : OwnE W base v []) (rd : Rd 3 encE W A es) (hN : es.length = N) (hl : N ≤ 512) (hb : base ≤ W.heap.size)
    (hlit : (ys.flatMap encE).toArray = lit) (hm : ys.length = m) (hm2 : m ≤ 100) :
    Appends Try.prog W 22 22 v (.slice A N c) ∧ ∃ v1 W1, appV Try.prog W 22 22 v (.slice A N c) = v1 ∧ appW Try.prog W 22 22 v (.slice A N c) = W1 ∧
      Appends Try.prog (W1.alloc (.cells lit 39)) 22 22 v1 (.slice (some ⟨W1.heap.size, 0, none⟩) m m) ∧ ∃ v2 W2, appV Try.prog (W1.alloc (.cells lit 39)) 22 22 v1 (.slice (some ⟨W1.heap.size, 0, none⟩) m m) = v2 ∧ appW Try.prog (W1.alloc (.cells lit 39)) 22 22 v1 (.slice (some ⟨W1.heap.size, 0, none⟩) m m) = W2 ∧
        Hid (OwnE W2 base v2 (es ++ ys)) ∧ Below base W W1 ∧ Below base W W2 := by
  obtain ⟨h1, v1, W1, e1, e2, e3, e4, e5⟩ := app_es (c := c) own rd hN hl hb
  have hb1 : base ≤ W1.heap.size := Nat.le_trans hb e4.size
  subst hlit
  obtain ⟨g1, v2, W2, d1, d2, d3, d4, _⟩ := app_rows (P := Try.prog) (ty := 22) (c := m) (m := m) appInfoEdge Try.underlying22 rfl (by omega) encE_len encE_one (e3.alloc _) (rd_lit W1 ys) hm ⟨_, rfl⟩ (by simp; omega) (by unfold maxLen; omega) (by omega)
  have b1 : Below base W W1 := OwnR.below own e4 hb
  have b2 : Below base W (W1.alloc (.cells (ys.flatMap encE).toArray 39)) := b1.alloc hb1 _
  exact ⟨h1, v1, W1, e1, e2, g1, v2, W2, d1, d2, Lib.hid d3, b1, b2.trans (OwnR.below (e3.alloc _) d4 (by simp; omega))⟩
/-- make([]Edge, 0, 512). -/
theorem mk_room : ∃ mc : Array Value, (∀ W : World, (Instr.makeSlice 22 (.int .i64 0) (.int .i64 512)).run Try.prog W = .ok (.slice (some ⟨W.heap.size, 0, none⟩) 0 512) (W.alloc (.cells mc 39))) ∧ mc.size = 512 * 3 :=
  ⟨madeCells #[.int .i64 0, .int .i64 0, .int .i64 0] (512 * 3), fun W => mk_empty (P := Try.prog) 22 39 (.agg #[.int .i64 0, .int .i64 0, .int .i64 0]) 3 24 Try.underlying22 appInfoEdge #[.int .i64 0, .int .i64 0, .int .i64 0] rfl 512 (by omega) (by omega) W, size_madeCells _ _⟩
theorem rd_two (w : World) (a b c d e f : Int) : Rd 3 encE (w.alloc (.cells #[.int .i64 a, .int .i64 b, .int .i64 c, .int .i64 d, .int .i64 e, .int .i64 f] 39)) (some ⟨w.heap.size, 0, none⟩) [⟨a, b, c⟩, ⟨d, e, f⟩] := by
  have h := rd_lit w [⟨a, b, c⟩, ⟨d, e, f⟩]
  have e : ([⟨a, b, c⟩, ⟨d, e, f⟩] : List GEdge).flatMap encE = [.int .i64 a, .int .i64 b, .int .i64 c, .int .i64 d, .int .i64 e, .int .i64 f] := by simp [encE]
  rw [e] at h
  exact h
end Go.Proofs.Ytcnhkcbkeneobaa
