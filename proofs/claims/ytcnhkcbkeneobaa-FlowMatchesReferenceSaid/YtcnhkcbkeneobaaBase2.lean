/-
More words for memory and for the walk: appends as rules of the walk, regions taken out of a function's code, posts behind a name.
-/
import Derived.Test.YtcnhkcbkeneobaaBase
import Derived.Deep.AppendLies
import Derived.BigRegion
import Derived.OwnWalk
namespace Go.Proofs.Ytcnhkcbkeneobaa
open Go.RowKit

/-- A statement that ends by itself: what follows is kept behind a name. -/
theorem wp_normal {P : Program} {c : Code} {Q : Exit → Act → World → Prop} {a : Act} {w : World}
    (h : ∀ K : Act → World → Prop, (∀ a' w', Q .normal a' w' → K a' w') → Code.wp P c (Exit.then K (fun _ _ _ => False)) a w) : Code.wp P c Q a w := by
  refine wp_mono (h (Q .normal) (fun _ _ hq => hq)) ?_
  intro e a' w' hq
  cases e <;> first | exact hq | exact hq.elim
/-- An append that runs to its end; its value and its world. -/
def Appends (P : Program) (w : World) (t ty : TypeId) (v x : Value) : Prop := ∃ v' w', (Builtin.append_ #[t, t] ty #[v, x]).run P w = .ok v' w'
noncomputable def appV (P : Program) (w : World) (t ty : TypeId) (v x : Value) : Value := match (Builtin.append_ #[t, t] ty #[v, x]).run P w with | .ok v' _ => v' | _ => undef
noncomputable def appW (P : Program) (w : World) (t ty : TypeId) (v x : Value) : World := match (Builtin.append_ #[t, t] ty #[v, x]).run P w with | .ok _ w' => w' | _ => w
theorem append_pre {P : Program} {w : World} {t ty : TypeId} {v x : Value} (h : Appends P w t ty v x) : (Builtin.append_ #[t, t] ty #[v, x]).run P w = .ok (appV P w t ty v x) (appW P w t ty v x) := by
  obtain ⟨v', w', e⟩ := h
  unfold appV appW
  rw [e]
theorem append_op {P : Program} {w : World} {t ty : TypeId} {s x : Operand} {d : Option Tmp} {pos : String} {after : Array Go.Edge} {guard : Option (Nat × Bool)} {a : Act} {K : Act → World → Prop} {Q : Exit → Act → World → Prop}
    (h : Appends P w t ty (a.eval s) (a.eval x)) : Oper.wp P ⟨d, .call { callee := .builtin .append, args := #[s, x], argTypes := #[t, t] }, ty, pos, after, guard⟩ a w K Q = K (a.put d (appV P w t ty (a.eval s) (a.eval x))) (appW P w t ty (a.eval s) (a.eval x)) := by
  unfold Oper.wp execOp
  simp only [resolve, invoke, builtin, Sem.run_bind, Sem.run_pure, Result.andThen_ok, List.map_toArray, List.map_cons, List.map_nil, append_pre h]
  rfl
def findRegion (n : Nat) : Code → Option Code
  | .region id ops d => if id = n then some (.region id ops d) else none
  | .loop c => findRegion n c
  | .seq a b => match findRegion n a with
    | some c => some c
    | none => findRegion n b
  | .block _ c => findRegion n c
  | .scope c => findRegion n c
  | .cond _ a b => match findRegion n a with
    | some c => some c
    | none => findRegion n b
  | _ => none
theorem appends_of {P : Program} {w : World} {t ty : TypeId} {v x v' : Value} {w' : World} (h : (Builtin.append_ #[t, t] ty #[v, x]).run P w = .ok v' w') : Appends P w t ty v x ∧ appV P w t ty v x = v' ∧ appW P w t ty v x = w' :=
  ⟨⟨v', w', h⟩, by unfold appV; rw [h], by unfold appW; rw [h]⟩
attribute [go_sem ↓] append_op
end Go.Proofs.Ytcnhkcbkeneobaa
