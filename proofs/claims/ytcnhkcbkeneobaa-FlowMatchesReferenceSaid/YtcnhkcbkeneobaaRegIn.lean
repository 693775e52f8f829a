/-
A region whose order is drawn, inside a round: from the plain calculus to the fenced one, for operations that neither call nor defer.
-/
import Derived.OrdersHeld
import Derived.OrdersIn
import Derived.Deep.RegionHeld
namespace Go.Proofs.Ytcnhkcbkeneobaa

def plainOp : Op → Bool
  | .load _ _ => true
  | .store _ _ _ => true
  | .fieldAddr _ _ _ => true
  | .indexAddr _ _ _ => true
  | _ => false
def plainNext : Result Next → Prop
  | .ok (.value _) _ => True
  | .ok .skip _ => True
  | .halt _ _ => True
  | _ => False
theorem plain_v (P : Program) (s : Sem Value) (w : World) : plainNext ((do pure (Next.value (← s)) : Sem Next).run P w) := by
  rw [Sem.run_bind]
  cases h : s.run P w <;> simp [Result.andThen, Sem.run_pure, plainNext]
theorem plain_u (P : Program) (s : Sem Unit) (w : World) : plainNext ((do s; pure Next.skip : Sem Next).run P w) := by
  rw [Sem.run_bind]
  cases h : s.run P w <;> simp [Result.andThen, Sem.run_pure, plainNext]
theorem plain_exec (P : Program) (ρ : Operand → Value) (o : Oper) (h : plainOp o.op = true) (w : World) : plainNext ((execOp ρ o).run P w) := by
  unfold execOp
  cases ho : o.op <;> rw [ho] at h <;> first | exact plain_v _ _ _ | exact plain_u _ _ _ | exact absurd (show false = true from h) Bool.false_ne_true
theorem plain_about (P : Program) (ρ : Operand → Value) (o : Oper) (h : plainOp o.op = true) (w : World) : o.about P w ρ = none := by
  unfold Oper.about
  cases ho : o.op <;> rw [ho] at h <;> first | rfl | exact absurd (show false = true from h) Bool.false_ne_true
theorem plain_sem (F : Fence) (ρ : Operand → Value) (o : Oper) (h : plainOp o.op = true) : o.semAt F.round ρ = execOp ρ o :=
  Oper.semAt_eq _ _ _ (fun c e => by rw [e] at h; cases h)
theorem plain_upon {F : Fence} {n : Nat} {P : Program} {o : Oper} {a : Act} {K : Act → World → Prop} {Q : Exit → Act → World → Prop} {r : Result Next} (hp : plainNext r) (h : o.upon P a K Q r) : o.uponIn F n P a K Q r := by
  cases r with
  | ok x w => cases x <;> first | exact h | cases hp
  | halt x w => cases x <;> exact h
theorem plain_wp {F : Fence} {n : Nat} {P : Program} {o : Oper} {a : Act} {w : World} {K : Act → World → Prop} {Q : Exit → Act → World → Prop} (hp : plainOp o.op = true) (h : o.wp P a w K Q) : o.wpIn F n P a w K Q :=
  ⟨fun f hf => (by rw [plain_about P _ o hp w] at hf; cases hf), by rw [plain_sem F _ o hp]; exact plain_upon (plain_exec P _ o hp w) h⟩
theorem any_in {F : Fence} {n : Nat} {P : Program} {ops : Array Oper} {Q : Exit → Act → World → Prop} {md : Region.Mode} (hp : (ops.all fun o => plainOp o.op) = true) (hL : ¬ LetsOut Q) :
    ∀ (fuel : Nat) (listed : Array Bool) (a : Act) (w : World), wpAny P md ops Q fuel listed a w → wpAnyIn F n P md ops Q fuel listed a w := by
  have hp' : ∀ (i : Nat) (o : Oper), ops[i]? = some o → plainOp o.op = true := fun i o ho =>
    (Array.all_eq_true_iff_forall_mem.1 hp) o (Array.mem_of_getElem? ho)
  intro fuel
  induction fuel with
  | zero => intro listed a w h; exact h
  | succ fuel ih =>
    intro listed a w h
    refine ⟨h.1, fun i hi => ?_⟩
    have h1 := wpOp_mono (ih (listed.setIfInBounds i true)) (h.2 i hi)
    unfold wpOp at h1
    unfold wpOpIn
    cases ho : ops[i]? with
    | none => rw [ho] at h1; exact h1
    | some o =>
      rw [ho] at h1
      simp only at h1 ⊢
      by_cases hw : Region.wanted o (yielded ops a.tmps) = true
      · rw [if_pos hw] at h1 ⊢
        exact plain_wp (hp' i o ho) (h1.resolve_right fun h => hL h.2)
      · rw [if_neg hw] at h1 ⊢
        exact ⟨fun f hf => (by rw [plain_about P _ o (hp' i o ho) w] at hf; cases hf), h1⟩

/-- The whole: a drawn region of plain operations that does not panic. -/
theorem region_in {F : Fence} {n : Nat} {P : Program} {id : Nat} {ops : Array Oper} {Q : Exit → Act → World → Prop} {S : World → Prop} {a : Act} {w : World} (hm : P.follows .mixedOrders = true) (hp : (ops.all fun o => plainOp o.op) = true)
    (hS : S w.drew) (h : S w.drew → wpAnyH P .any ops (fun e a' w' => e = .normal ∧ Q .normal a' w') S ops.size (Array.replicate ops.size false) a w.drew) : (Code.region id ops true).wpIn F n P Q a w := by
  have hL : ¬ LetsOut (fun (e : Exit) (a' : Act) (w' : World) => e = .normal ∧ Q .normal a' w') := fun ⟨_, _, h, _⟩ => by cases h
  have h1 : (Code.region id ops true).wpIn F n P (fun (e : Exit) (a' : Act) (w' : World) => e = .normal ∧ Q .normal a' w') a w := wpIn_region_any hm (any_in hp hL _ _ _ _ (wpAny_of_held _ _ _ _ (h hS)))
  refine wpIn_mono h1 ?_
  rintro e a' w' ⟨rfl, h2⟩
  exact h2
end Go.Proofs.Ytcnhkcbkeneobaa
