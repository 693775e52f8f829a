/-
For every site with few things that is valid, a charger is below a conductor if and only if this is on its path, all chargers are below the feeder, and those below one conductor increase; no conditions.
-/
import Derived.Test.YtjlfnhfiiailgaaCLawW3
import Derived.Test.YtjlfnhfiiailgaaCEnter
import Derived.Test.YtjlfnhfiiailgaaRows
import Derived.Test.YtjlfnhfiiailgaaChecked
import Derived.WalkKit
import Derived.ProofKit
import Derived.OpenShut
import Derived.ShutString
import Derived.ChangeOld
import Derived.Below
namespace Go.Proofs.Ytjlfnhfiiailgaa.treeBelow
open Go.ChangeShapes Go.WideShapes Go.ChangeAt Go.RowKit
set_option linter.unusedVariables false

theorem own : ownKnob Try.prog.godebug = none := by kernel_rfl
theorem laidOut : laidOutB Try.prog = true := by kernel_rfl

set_option maxRecDepth 100000 in
theorem lifted (os : Os) (started : os.Started) (H : Type) (enc : TypeId × Value → H) :
    ReturnsInHanded {} Try.checked os 5 .any (Rows.treeBelowSpec.pre6 enc Try.prog Try.f5 Rows.treeBelowRow.domain false) (Rows.treeBelowSpec.post enc Try.prog Try.f5 false true false false) := by
  refine returnsInHanded_of_change (C := Try.checked) own started (by kernel_rfl) Try.func5
    (ChangeSpec.witness6 (enc := enc) (C := Try.checked) false ⟨#[], #[.agg #[.slice none 0 0, .slice none 0 0, .slice none 0 0, .slice none 0 0, .slice none 0 0]], []⟩ 8 (by kernel_rfl) (by kernel_rfl) (by kernel_rfl) (by kernel_rfl)) ?_
  intro W base args ds gs before hval0 hW hcnd _
  have hval : ∀ (j : Nat) t v, Try.f5.params[j]? = some t → args[j]? = some v → Value.okWide Try.prog W .any base t v := hval0
  have hW' := hW
  obtain ⟨p, q, hA0, hV, rfl, hfz, hnd⟩ := hW
  have hA : DataW.TrodAll enc Try.prog W 0 (fun _ => true) true Try.f5.params.toList args.toList ds p := hA0
  rw [Try.params5] at hA hval
  obtain ⟨v0, vs0, d0, ds0, p0, q0, hargs, rfl, rfl, h0, r0⟩ := trodAll_cons hA
  obtain ⟨rfl, rfl, rfl⟩ := trodAll_nil r0
  obtain rfl : args = #[v0] := by cases args; simp_all
  obtain ⟨rfl, rfl⟩ := trodVars_none hV
  have k0 := h0
  have lt0 : ∀ x ∈ p0, x.block < W.heap.size := by obtain ⟨m, hm⟩ := k0; exact DataW.trod_lt m _ _ _ hm
  obtain ⟨a0_1, n0_1, c0_1, a0_2, n0_2, c0_2, a0_3, n0_3, c0_3, a0_4, n0_4, c0_4, a0_5, n0_5, c0_5, z0, rfl, hz0, wz0⟩ := site_open (hval 0 28 v0 rfl rfl) h0
  clear hA0 hval0
  refine (walk_TreeBelow (w := W) a0_1 n0_1 c0_1 a0_2 n0_2 c0_2 a0_3 n0_3 c0_3 a0_4 n0_4 c0_4 a0_5 n0_5 c0_5 z0 (Lib.hid hz0) wz0).mono fun e W' ⟨he, bel⟩ => ?_
  subst he
  exact ⟨_, rfl, _, _, _, [], _, [], hW', trodAll_mk1 (shut_bool Try.underlying4 _), (trodAll_cons_mk (Below.trod laidOut (by kernel_rfl) (of_decide_eq_true (by kernel_rfl)) k0 bel lt0) trodAll_mk0), rfl, bel.frame _, fun h => by cases h⟩

theorem facts : joinedFacts Try.pinned.checked.prog 5 Try.f5 Rows.treeBelowSpec Rows.treeBelowRow = true := by
  unfold joinedFacts
  rw [enter_ok, lift_ok, make_ok]
  kernel_rfl
theorem over : Rows.treeBelowRow.holds Try.pinned (OpenSpec.ofChange Rows.treeBelowSpec) :=
  OpenClaim.holds_of_wide 5 Try.f5 rfl rfl rfl rfl rfl rfl rfl ⟨rfl, rfl, rfl, rfl, rfl⟩ rfl rfl rfl rfl rfl (by kernel_rfl) Try.func5 facts
    (of_decide_eq_true (by kernel_rfl)) (by unfold Func.isWrapper; first | (rw [if_pos (by decide +kernel)]; kernel_rfl) | (rw [if_neg (by decide +kernel)]; exact ⟨rfl, rfl⟩))
    (fun os started H enc _ => lifted os started H enc)
theorem proved : Rows.TreeBelowSaid := over
end Go.Proofs.Ytjlfnhfiiailgaa.treeBelow
