/-
Most, at any ends.
-/
import Derived.Test.YtcnhkcbkeneobaaFlowT
import Derived.Test.YtcnhkcbkeneobaaFlowPl
import Derived.Test.YtcnhkcbkeneobaaAppE
namespace Go.Proofs.Ytcnhkcbkeneobaa
open Go.RowKit
theorem fMost_any (nodes s t : Int) (c N : Nat) (A : Option Addr) (es : List GEdge) (w : World) (hR : Rd 3 encE w A es) (HN : Hid (es.length = N)) (hl : N ≤ 9223372036854775807) :
    Calls Try.prog 14 #[.agg #[.int .i64 nodes, .slice A N c], .int .i64 s, .int .i64 t] w fun e w' => ∃ n A1 l1 c1 A2 l2 c2 er, e = .returned (.tuple #[.int .i64 n, .slice A1 l1 c1, .slice A2 l2 c2, .int .i64 er]) ∧
      ((er = 0 ∧ okEnds nodes es s t = true ∧ IsMost nodes es s t n ∧ -512000000 ≤ n ∧ n ≤ 512000000) ∨ (er = 1 ∧ okEnds nodes es s t = false ∧ n = 0)) ∧ Below w.heap.size w w' := by
  cases hE : okEnds nodes es s t
  · refine (fMost_bad nodes s t c N A es w hR HN hl (Lib.hid hE)).mono ?_
    rintro e w1 ⟨rfl, hb⟩
    exact ⟨_, _, _, _, _, _, _, _, rfl, .inr ⟨rfl, rfl, rfl⟩, hb⟩
  · refine (fMost_cases nodes s t c N A es w hR HN (Lib.hid hE)).mono ?_
    rintro e w1 ⟨gF, gs, fl, side, rfl, _, _, hf, hc, hcap, hb⟩
    have hn := net_le_bound (okEnds_iff.1 hE).1 hf s
    exact ⟨_, _, _, _, _, _, _, _, rfl, .inl ⟨rfl, rfl, ⟨fl, side, hf, hc, rfl, hcap⟩, hn.1, hn.2⟩, hb⟩
/-- The same at ends that are right. -/
theorem fMost_fine (nodes s t : Int) (c N : Nat) (A : Option Addr) (es : List GEdge) (w : World) (hR : Rd 3 encE w A es) (HN : Hid (es.length = N)) (HE : Hid (okEnds nodes es s t = true)) :
    Calls Try.prog 14 #[.agg #[.int .i64 nodes, .slice A N c], .int .i64 s, .int .i64 t] w fun e w' => ∃ n A1 l1 c1 A2 l2 c2, e = .returned (.tuple #[.int .i64 n, .slice A1 l1 c1, .slice A2 l2 c2, .int .i64 0]) ∧
      Hid (IsMost nodes es s t n) ∧ -512000000 ≤ n ∧ n ≤ 512000000 ∧ Below w.heap.size w w' := by
  refine (fMost_cases nodes s t c N A es w hR HN HE).mono ?_
  rintro e w1 ⟨gF, gs, fl, side, rfl, _, _, hf, hc, hcap, hb⟩
  have hn := net_le_bound (okEnds_iff.1 HE.out).1 hf s
  exact ⟨_, _, _, _, _, _, _, rfl, Lib.hid ⟨fl, side, hf, hc, rfl, hcap⟩, hn.1, hn.2, hb⟩
end Go.Proofs.Ytcnhkcbkeneobaa
