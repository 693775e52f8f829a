/-
A region whose order is drawn, inside a round of a wide fence, where all operations but a last few are still, and those come up in one order.
-/
import Derived.Test.YtjlfnhfiiailgaaGBase
import Derived.StillTailTactics
namespace Go.Proofs.Ytjlfnhfiiailgaa
theorem wpIn_region_still_tail {P : Program} {lp m id : Nat} {Q : Exit → Act → World → Prop} {a : Act} {w : World} {l : List Oper} (n : Nat) (hm : P.follows .mixedOrders = true) (hp : (l.toArray.all fun o => noDefer o.op) = true) (hB : Region.lexTailB .any l.toArray n = true)
    (h : wpStill P l.toArray { w with drawn := w.drawn + 1 } (fun a' => wpList P l.toArray (fun e a' w' => e = .normal ∧ Q .normal a' w') (l.drop n) a' { w with drawn := w.drawn + 1 }) (l.take n) a) : (Code.region id l.toArray true).wpIn (Fence.wide.inRound lp) m P Q a w := by
  simp only [Region.lexTailB, Bool.and_eq_true, decide_eq_true_eq] at hB
  obtain ⟨⟨⟨⟨hsel, hn⟩, hs⟩, hc⟩, hlex⟩ := hB
  have hn' : n < l.length := by simpa using hn
  have htl : (l.take n).length = n := by simp; omega
  have hdl : (l.drop n).length = l.toArray.size - n := by simp
  have inv0 : HeadInv .any l.toArray n (Array.replicate l.toArray.size false) :=
    ⟨by simp, fun j oj _ hl => (by rw [getD_replicate_false] at hl; cases hl), fun t _ ht => getD_in (by simpa using ht) (getD_replicate_false _ _)⟩
  have H := wpAnyL_lex (md := .any) (g := l.toArray.size - n) hsel hs hc hn (l.take n) 0 _ a (fun j hj => by
    have hj' : j < n := by rw [htl] at hj; exact hj
    simp [hj']) (by simpa using htl) inv0 (by rw [htl]; exact hlex) h
  have hL : ¬ LetsOut (fun (e : Exit) (a' : Act) (w' : World) => e = .normal ∧ Q .normal a' w') := fun ⟨_, _, h, _⟩ => by cases h
  have H2 := wpAny_of_head (Q' := fun e a' w' => e = .normal ∧ Q .normal a' w') (g := l.toArray.size - n) (fun listed a' hL => by
    have := wpAny_of_seq (md := .any) (Q' := fun e a' w' => e = .normal ∧ Q .normal a' w') (l.drop n) n listed a' { w with drawn := w.drawn + 1 } (fun j => by simp [List.getElem?_drop]) (by rw [hdl]; exact hL.1) hL.2
    rwa [hdl] at this) _ _ _ H
  rw [htl, show n + (l.toArray.size - n) = l.toArray.size by omega] at H2
  have h1 : (Code.region id l.toArray true).wpIn (Fence.wide.inRound lp) m P (fun (e : Exit) (a' : Act) (w' : World) => e = .normal ∧ Q .normal a' w') a w := wpIn_region_any hm (any_wide hp hL _ _ _ _ H2)
  refine wpIn_mono h1 ?_
  rintro e a' w' ⟨rfl, h2⟩
  exact h2
end Go.Proofs.Ytjlfnhfiiailgaa
