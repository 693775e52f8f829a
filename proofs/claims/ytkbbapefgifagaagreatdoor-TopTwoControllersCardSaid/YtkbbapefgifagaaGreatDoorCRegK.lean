/-
As RegZ, but what an operation keeps is promised only if it holds before: pure operations may then be taken at any time.
-/
import Derived.Test.YtkbbapefgifagaaGreatDoorGBase
namespace Go.Proofs.YtkbbapefgifagaaGreatDoor
section
variable {P : Program} {ops : Array Oper} {Q : Exit → Act → World → Prop} {md : Region.Mode} {S : World → Prop} {Z : List Nat}
def wpAnyK (P : Program) (md : Region.Mode) (ops : Array Oper) (Q : Exit → Act → World → Prop) (S : World → Prop) (Z : List Nat) : Nat → Array Bool → Act → World → Prop
  | 0, listed, a, w => Region.ready md ops listed = [] ∧ Q .normal a w
  | fuel + 1, listed, a, w =>
    (Region.ready md ops listed = [] → Q .normal a w) ∧
    ∀ i ∈ Region.ready md ops listed, wpOp P ops Q i (fun a' w' => (i ∉ Z → S w → S w') ∧ wpAnyK P md ops Q S Z fuel (listed.setIfInBounds i true) a' w') a w
theorem wpAny_of_K : ∀ (fuel : Nat) (listed : Array Bool) (a : Act) (w : World), wpAnyK P md ops Q S Z fuel listed a w → wpAny P md ops Q fuel listed a w
  | 0, _, _, _, h => h
  | fuel + 1, _, _, _, h => ⟨h.1, fun i hi => wpOp_mono (fun a' w' h' => wpAny_of_K fuel _ a' w' h'.2) (h.2 i hi)⟩
theorem wpAnyK_first {T : World → Prop} {i : Nat} {oi : Oper} {v : Value} {C : List Nat} (hi : ops[i]? = some oi) (hsel : ∀ (j : Nat) (o : Oper) cs b, ops[j]? = some o → o.op ≠ .select cs b)
    (hQ : ∀ c a w, Q (.panic c) (a.put oi.dst v) w → Q (.panic c) a w) (hZ : (∀ w, T w) ∨ ((∀ w, T w ↔ S w) ∧ ∀ z, z ∈ Z → z ∈ C)) :
    ∀ (fuel : Nat) (listed : Array Bool) (a : Act) (w : World),
      (∀ j oj, ops[j]? = some oj → j ≠ i → listed.getD j true = false → (∀ e ∈ oj.after, Region.binds md e = true → e.on ≠ i) → oi.apart ops oj = true) →
      blocks md ops listed i C = true → i ∈ Region.ready md ops listed → YieldsIf P ops T oi v a → T w →
      wpAnyK P md ops Q S Z fuel (listed.setIfInBounds i true) (a.put oi.dst v) w → wpAnyK P md ops Q S Z (fuel + 1) listed a w := by
  intro fuel
  induction fuel with
  | zero =>
    intro listed a w _ _ hr hy hS H
    refine ⟨fun h => (by rw [h] at hr; cases hr), fun j hj => ?_⟩
    by_cases hji : j = i
    · subst hji; exact hy.wpOp hi hS ⟨fun _ h => h, H⟩
    · have := ready_mono hj hji
      rw [H.1] at this
      cases this
  | succ fuel ih =>
    intro listed a w hfree hbl hr hy hS H
    refine ⟨fun h => (by rw [h] at hr; cases hr), fun j hj => ?_⟩
    by_cases hji : j = i
    · subst hji; exact hy.wpOp hi hS ⟨fun _ h => h, H⟩
    · have h1 := H.2 j (ready_mono hj hji)
      obtain ⟨hjun, oj, hoj, hall⟩ := mem_ready.1 hj
      have h0 := (mem_ready.1 hr).1
      have hjC : j ∉ C := fun hc => blocks_not hbl h0 hc hj
      have hnot : ∀ e ∈ oj.after, Region.binds md e = true → e.on ≠ i := fun e he hb heq => by
        have h1 := hall e he hb
        rw [heq, unlisted h0] at h1
        cases h1
      have h2 := wpOp_putIf hoj (hfree j oj hoj hji hjun hnot) (fun cs b => hsel i oi cs b hi) (fun cs b => hsel j oj cs b hoj) hQ hy h1
      have hfree' : ∀ k ok, ops[k]? = some ok → k ≠ i → (listed.setIfInBounds j true).getD k true = false →
          (∀ e ∈ ok.after, Region.binds md e = true → e.on ≠ i) → oi.apart ops ok = true := fun k ok hk hki hun hno => by
        refine hfree k ok hk hki ?_ hno
        by_cases hjk : j = k
        · subst hjk; exact hjun
        · rw [getD_set_ne true hjk] at hun; exact hun
      refine wpOp_mono (fun a' w' h3 => ⟨h3.2.1, ih (listed.setIfInBounds j true) a' w' hfree' (blocks_set hbl hjC) (ready_mono hr (Ne.symm hji)) h3.1 ?_ ?_⟩) h2
      · rcases hZ with hZ | ⟨hZ, hz2⟩
        · exact hZ w'
        · exact (hZ w').2 (h3.2.1 (fun hz => hjC (hz2 j hz)) ((hZ w).1 hS))
      · rw [Array.setIfInBounds_comm _ _ hji]
        exact h3.2.2
/-- Take number i first; C: the operations of Z, and those that wait for i and for which Z waits. -/
theorem wpAnyK_take {i : Nat} {oi : Oper} {v : Value} {fuel : Nat} {listed : Array Bool} {a : Act} {w : World} (C : List Nat) (hi : ops[i]? = some oi)
    (hs : Region.noSelect ops = true) (hf : Region.free md ops listed i = true) (hr : (Region.ready md ops listed).contains i = true) (hb : (blocks md ops listed i C && Z.all (fun z => C.contains z)) = true)
    (hQ : ∀ c a w, Q (.panic c) (a.put oi.dst v) w → Q (.panic c) a w) (hy : YieldsIf P ops S oi v a) (hS : S w)
    (h : wpAnyK P md ops Q S Z fuel (listed.setIfInBounds i true) (a.put oi.dst v) w) : wpAnyK P md ops Q S Z (fuel + 1) listed a w := by
  simp only [Bool.and_eq_true, List.all_eq_true, List.contains_iff_mem] at hb
  exact wpAnyK_first hi (Region.noSelect_spec hs) hQ (.inr ⟨fun _ => Iff.rfl, hb.2⟩) fuel listed a w (Region.free_spec hi hf) hb.1 (by simpa using hr) hy hS h
/-- wpAnyK_take, in few words. -/
theorem kt {i : Nat} {oi : Oper} {v : Value} {fuel : Nat} {listed : Array Bool} {a : Act} {w : World} (C : List Nat) (hy : ∀ w', S w' → (execOp a.eval oi).run P w' = .ok (.value v) w') (hS : S w)
    (h : wpAnyK P md ops Q S Z fuel (listed.setIfInBounds i true) (a.put oi.dst v) w) (hi : ops[i]? = some oi := by exact rfl)
    (hs : Region.noSelect ops = true := by kernel_rfl) (hf : Region.free md ops listed i = true := by kernel_rfl) (hr : (Region.ready md ops listed).contains i = true := by kernel_rfl) (hb : (blocks md ops listed i C && Z.all (fun z => C.contains z)) = true := by kernel_rfl)
    (hQ : ∀ c a w, Q (.panic c) (a.put oi.dst v) w → Q (.panic c) a w := by exact fun _ _ _ h => h) (hw : Region.wanted oi (yielded ops a.tmps) = true := by kernel_rfl) : wpAnyK P md ops Q S Z (fuel + 1) listed a w :=
  wpAnyK_take C hi hs hf hr hb hQ (Or.inl ⟨hw, hy⟩) hS h
/-- Take a pure one first. -/
theorem wpAnyK_pure {i : Nat} {oi : Oper} {v : Value} {fuel : Nat} {listed : Array Bool} {a : Act} {w : World} (hi : ops[i]? = some oi)
    (hs : Region.noSelect ops = true) (hf : Region.free md ops listed i = true) (hr : (Region.ready md ops listed).contains i = true)
    (hQ : ∀ c a w, Q (.panic c) (a.put oi.dst v) w → Q (.panic c) a w) (hy : YieldsIf P ops (fun _ => True) oi v a)
    (h : wpAnyK P md ops Q S Z fuel (listed.setIfInBounds i true) (a.put oi.dst v) w) : wpAnyK P md ops Q S Z (fuel + 1) listed a w :=
  wpAnyK_first (T := fun _ => True) (C := []) hi (Region.noSelect_spec hs) hQ (.inl fun _ => trivial) fuel listed a w (Region.free_spec hi hf) (by rfl) (by simpa using hr) hy trivial h
/-- The only one that may come up, and one of the last. -/
theorem wpAnyK_last {i : Nat} {o : Oper} {fuel : Nat} {listed : Array Bool} {a : Act} {w : World} (hr : Region.ready md ops listed = [i]) (ho : ops[i]? = some o) (hz : Z.contains i = true)
    (h : ∀ K' : Act → World → Prop, Shut (∀ a w, wpAnyK P md ops Q S Z fuel (listed.setIfInBounds i true) a w → K' a w) → if Region.wanted o (yielded ops a.tmps) = true then Oper.wp P o a w K' Q else K' (a.put o.dst undef) w) :
    wpAnyK P md ops Q S Z (fuel + 1) listed a w := by
  refine ⟨fun h0 => absurd (hr ▸ h0) (by simp), ?_⟩
  rw [hr]
  intro j hj
  rw [List.mem_singleton] at hj
  subst hj
  exact wpOp_step ho (fun K' hK => h K' (fun a w hW => hK a w ⟨fun hn => absurd (by simpa using hz) hn, hW⟩))
/-- The only one that may come up, and not one of the last. -/
theorem wpAnyK_one {i : Nat} {o : Oper} {fuel : Nat} {listed : Array Bool} {a : Act} {w : World} (hr : Region.ready md ops listed = [i]) (ho : ops[i]? = some o)
    (h : ∀ K' : Act → World → Prop, Shut (∀ a w2, (S w → S w2) → wpAnyK P md ops Q S Z fuel (listed.setIfInBounds i true) a w2 → K' a w2) → if Region.wanted o (yielded ops a.tmps) = true then Oper.wp P o a w K' Q else K' (a.put o.dst undef) w) :
    wpAnyK P md ops Q S Z (fuel + 1) listed a w := by
  refine ⟨fun h0 => absurd (hr ▸ h0) (by simp), ?_⟩
  rw [hr]
  intro j hj
  rw [List.mem_singleton] at hj
  subst hj
  exact wpOp_step ho (fun K' hK => h K' (fun a w hS hW => hK a w ⟨fun _ => hS, hW⟩))
theorem wpAnyK_done {listed : Array Bool} {a : Act} {w : World} (hr : Region.ready md ops listed = []) (h : Q .normal a w) : ∀ fuel, wpAnyK P md ops Q S Z fuel listed a w
  | 0 => ⟨hr, h⟩
  | _ + 1 => ⟨fun _ => h, by rw [hr]; simp⟩
end
/-- The beginning, in the plain walk. -/
theorem region_k {P : Program} {id : Nat} {ops : Array Oper} {Q : Exit → Act → World → Prop} {S : World → Prop} (Z : List Nat) {a : Act} {w : World} (hm : P.follows .mixedOrders = true)
    (hS : S w.drew) (h : S w.drew → wpAnyK P .any ops Q S Z ops.size (Array.replicate ops.size false) a w.drew) : (Code.region id ops true).wp P Q a w :=
  wp_region_any hm (wpAny_of_K _ _ _ _ (h hS))
end Go.Proofs.YtkbbapefgifagaaGreatDoor
