/-
The reference's Most, at any ends.
-/
import Derived.Test.YtmmmgafnmpaohaaCFlowR6
namespace Go.Proofs.Ytmmmgafnmpaohaa
open Go.RowKit
set_option maxRecDepth 100000 in
set_option maxHeartbeats 2000000 in
theorem rfMost_bad (nodes s t : Int) (c N : Nat) (A : Option Addr) (es : List GEdge) (w : World) (hR : Rd 3 encE w A es) (HN : Hid (es.length = N)) (hl : N ≤ 9223372036854775807) (HE : Hid (okEnds nodes es s t = false)) :
    Calls Try.prog 43 #[.agg #[.int .i64 nodes, .slice A N c], .int .i64 s, .int .i64 t] w fun e w' => e = .returned (.tuple #[.int .i64 0, .slice none 0 0, .slice none 0 0, .int .i64 1]) ∧ Below w.heap.size w w' := by
  go_enter Try.func43, Try.ntmps43
  go_wp2_with fail
  refine (rfEnds_any nodes s t A c N es _ (hR.keep ((Below.refl _ w).alloc (Nat.le_refl _) _)) HN.out hl).mono ?_
  rintro e w1 ⟨rfl, hb1⟩
  rw [HE.out]
  have hb1' : Below w.heap.size w w1 := below_then ((Below.refl _ w).alloc (Nat.le_refl _) _) hb1
  clear hb1
  go_wp2_with fail
  (try simp only [Exit.inBlock, Exit.then])
  refine bodyPost_ret (results_tmp4 rfl _ _ _) rfl ?_
  exact ⟨rfl, hb1'⟩
theorem rfMost_any (nodes s t : Int) (c N : Nat) (A : Option Addr) (es : List GEdge) (w : World) (hR : Rd 3 encE w A es) (HN : Hid (es.length = N)) (hl : N ≤ 9223372036854775807) :
    Calls Try.prog 43 #[.agg #[.int .i64 nodes, .slice A N c], .int .i64 s, .int .i64 t] w fun e w' => ∃ n A1 l1 c1 A2 l2 c2 er, e = .returned (.tuple #[.int .i64 n, .slice A1 l1 c1, .slice A2 l2 c2, .int .i64 er]) ∧
      ((er = 0 ∧ okEnds nodes es s t = true ∧ IsMost nodes es s t n ∧ -512000000 ≤ n ∧ n ≤ 512000000) ∨ (er = 1 ∧ okEnds nodes es s t = false ∧ n = 0)) ∧ Below w.heap.size w w' := by
  cases hE : okEnds nodes es s t
  · refine (rfMost_bad nodes s t c N A es w hR HN hl (Lib.hid hE)).mono ?_
    rintro e w1 ⟨rfl, hb⟩
    exact ⟨_, _, _, _, _, _, _, _, rfl, .inr ⟨rfl, rfl, rfl⟩, hb⟩
  · obtain ⟨hok, e1, e2, e3, e4, e5⟩ := okEnds_iff.1 hE
    obtain ⟨n1, n2, _⟩ := (okG_iff.1 hok).1
    obtain ⟨nn, rfl⟩ : ∃ nn : Nat, nodes = nn := ⟨nodes.toNat, by omega⟩
    obtain ⟨s', rfl⟩ : ∃ nn : Nat, s = nn := ⟨s.toNat, by omega⟩
    obtain ⟨t', rfl⟩ : ∃ nn : Nat, t = nn := ⟨t.toNat, by omega⟩
    refine (rfMost_ok nn c N s' t' A es w hR HN (Lib.hid hE)).mono ?_
    rintro e w1 ⟨gF, gs, fl, side, rfl, _, _, hf, hc, hcap, hb, _, _⟩
    have hn := net_le_bound hok hf s'
    exact ⟨_, _, _, _, _, _, _, _, rfl, .inl ⟨rfl, rfl, ⟨fl, side, hf, hc, rfl, hcap⟩, hn.1, hn.2⟩, hb⟩
end Go.Proofs.Ytmmmgafnmpaohaa
