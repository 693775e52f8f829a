/-
Most at bad ends.
-/
import Derived.Test.YtcnhkcbkeneobaaFlowQ
namespace Go.Proofs.Ytcnhkcbkeneobaa
open Go.RowKit Go.Shelf
set_option maxRecDepth 100000 in
set_option maxHeartbeats 2000000 in
theorem fMost_bad (nodes s t : Int) (c N : Nat) (A : Option Addr) (es : List GEdge) (w : World) (hR : Rd 3 encE w A es) (HN : Hid (es.length = N)) (hl : N ≤ 9223372036854775807) (HE : Hid (okEnds nodes es s t = false)) :
    Calls Try.prog 14 #[.agg #[.int .i64 nodes, .slice A N c], .int .i64 s, .int .i64 t] w fun e w' => e = .returned (.tuple #[.int .i64 0, .slice none 0 0, .slice none 0 0, .int .i64 1]) ∧ Below w.heap.size w w' := by
  go_enter Try.func14, Try.ntmps14
  go_wp2_with fail
  refine (fEnds_any nodes s t A c N es _ (hR.keep ((Below.refl _ w).alloc (Nat.le_refl _) _)) HN.out hl).mono ?_
  rintro e w1 ⟨rfl, hb1⟩
  rw [HE.out]
  have hb1' : Below w.heap.size w w1 := below_then ((Below.refl _ w).alloc (Nat.le_refl _) _) hb1
  clear hb1
  go_wp2_with fail
  (try simp only [Exit.inBlock, Exit.then])
  refine bodyPost_ret (results_tmp4 rfl _ _ _) rfl ?_
  exact ⟨rfl, hb1'⟩
end Go.Proofs.Ytcnhkcbkeneobaa
