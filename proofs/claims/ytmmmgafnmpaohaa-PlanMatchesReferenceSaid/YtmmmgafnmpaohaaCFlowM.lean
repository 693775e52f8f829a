/-
The search's memory when a node is marked as seen and its step laid down.
-/
import Derived.Test.YtmmmgafnmpaohaaCFlowL0
import Derived.Test.YtmmmgafnmpaohaaGBase
namespace Go.Proofs.Ytmmmgafnmpaohaa
open Go.RowKit Go.Shelf

theorem ownsRow_mod {M : Nat → Prop} {W W' : World} {base : Nat} {e : TypeId} {size : Nat} {v : Value} {n : Nat} {xs : List Value} (h : W.ownsRow base e size v n xs) (hm : Mod M W W') (hv : ∀ k, v.ownBlock = some k → ¬ M k) : W'.ownsRow base e size v n xs := by
  have hlt := h.lt
  obtain ⟨h1, h2⟩ := h
  refine ⟨h1, ?_⟩
  rcases h2 with ⟨a, b⟩ | ⟨g, cap, cur, rfl, hb, hh, rest⟩
  · exact .inl ⟨a, b⟩
  · refine .inr ⟨g, cap, cur, rfl, hb, ?_, rest⟩
    have e1 : (Value.slice (some ⟨g, 0, none⟩) n cap).ownBlock = some g := by simp [Value.ownBlock]
    rw [hm.block g (hlt g e1).2 (hv g e1)]
    exact hh

theorem stCell_set {st : List GStep} {d : Nat} (hd : d < st.length) (x : GStep) (j : Nat) :
    stCell (st.set d x) j = if j = d * 4 + 3 then .bool x.fwd else if j = d * 4 + 2 then .int .i64 x.room else if j = d * 4 + 1 then .int .i64 x.dst else if j = d * 4 then .int .i64 x.edge else stCell st j := by
  unfold stCell
  rw [List.getElem?_set]
  by_cases h : d = j / 4
  · rw [if_pos h, if_pos hd]
    simp only [Option.getD_some]
    have h4 : j % 4 = 0 ∨ j % 4 = 1 ∨ j % 4 = 2 ∨ j % 4 = 3 := by omega
    rcases h4 with h4 | h4 | h4 | h4
    · rw [if_pos h4, if_neg (by omega), if_neg (by omega), if_neg (by omega), if_pos (by omega)]
    · rw [if_neg (by omega), if_pos h4, if_neg (by omega), if_neg (by omega), if_pos (by omega)]
    · rw [if_neg (by omega), if_neg (by omega), if_pos h4, if_neg (by omega), if_pos (by omega)]
    · rw [if_neg (by omega), if_neg (by omega), if_neg (by omega), if_pos (by omega)]
  · rw [if_neg h, if_neg (show ¬ j = d * 4 + 3 by omega), if_neg (show ¬ j = d * 4 + 2 by omega), if_neg (show ¬ j = d * 4 + 1 by omega), if_neg (show ¬ j = d * 4 by omega)]

theorem SMem.mark {W : World} {b5 b8 b9 bq gs gb B nn : Nat} {t : Int} {v : Value} {seen : List Bool} {st : List GStep} {xs : List Int} {h : Nat} (m : SMem W b5 b8 b9 bq gs gb B nn t v seen st xs h)
    {d : Nat} (hd : d < nn) (hS : seen.length = nn) (hB : st.length = nn) (xe dd xr : Int) (xf : Bool) {W' : World}
    (hW : (((((W.setCell ⟨gs, d, none⟩ (.bool true)).setCell ⟨gb, d * 4, none⟩ (.int .i64 xe)).setCell ⟨gb, d * 4 + 1, none⟩ (.int .i64 dd)).setCell ⟨gb, d * 4 + 2, none⟩ (.int .i64 xr)).setCell ⟨gb, d * 4 + 3, none⟩ (.bool xf)).drew = W') :
    SMem W' b5 b8 b9 bq gs gb B nn t v (seen.set d true) (st.set d ⟨xe, dd, xr, xf⟩) xs h ∧ Mod (fun k => k = gs ∨ k = gb) W W' := by
  have ngb : gs ≠ gb := m.sn.ne m.by_ (by decide)
  have hm : Mod (fun k => k = gs ∨ k = gb) W W' := by
    rw [← hW]
    exact ((((((Mod.refl _ W).setCell (.inl (.inl rfl)) _).setCell (.inl (.inr rfl)) _).setCell (.inl (.inr rfl)) _).setCell (.inl (.inr rfl)) _).setCell (.inl (.inr rfl)) _).drew
  refine ⟨⟨m.k5.mod hm ?_, m.k8.mod hm ?_, m.k9.mod hm ?_, ?_, ?_, ⟨m.qu.hd.mod hm ?_, ownsRow_mod m.qu.own hm ?_, m.qu.le⟩, m.l5⟩, hm⟩
  · rintro (e | e)
    · exact m.k5.ne m.sn (by decide) e
    · exact m.k5.ne m.by_ (by decide) e
  · rintro (e | e)
    · exact m.k8.ne m.sn (by decide) e
    · exact m.k8.ne m.by_ (by decide) e
  · rintro (e | e)
    · exact m.k9.ne m.sn (by decide) e
    · exact m.k9.ne m.by_ (by decide) e
  · rw [← hW]
    refine ((((((m.sn.set d (.bool true)).other (p := ⟨gb, d * 4, none⟩) ngb _).other (p := ⟨gb, d * 4 + 1, none⟩) ngb _).other (p := ⟨gb, d * 4 + 2, none⟩) ngb _).other (p := ⟨gb, d * 4 + 3, none⟩) ngb _).drew).congr (fun i hi => ?_)
    by_cases e : i = d
    · subst e
      simp [hS, hd]
    · simp [e, Ne.symm e]
  · rw [← hW]
    refine ((((((m.by_.other (p := ⟨gs, d, none⟩) (fun e => ngb e.symm) _).set (d * 4) _).set (d * 4 + 1) _).set (d * 4 + 2) _).set (d * 4 + 3) _).drew).congr (fun i hi => ?_)
    rw [stCell_set (by omega)]
  · rintro (e | e)
    · exact m.qu.hd.ne m.sn (by decide) e
    · exact m.qu.hd.ne m.by_ (by decide) e
  · intro k hk
    rintro (e | e)
    · subst e; exact ownsRow_ne m.qu.own m.sn (by decide) hk
    · subst e; exact ownsRow_ne m.qu.own m.by_ (by decide) hk
theorem keepsFrom_mod {M : Nat → Prop} {W W' : World} (hm : Mod M W W') (B : Nat) (hc : ∀ k, M k → ∀ o, W.heap[k]? = some o → o.isCells = true) : KeepsFrom B W W' :=
  ⟨hm.size, fun k o _ hk ho => by
    have hl : k < W.heap.size := (Array.getElem?_eq_some_iff.1 hk).1
    rw [hm.block k hl (fun hM => by rw [hc k hM o hk] at ho; cases ho)]
    exact hk⟩
theorem Own.cells {w : World} {g : Nat} {t : TypeId} {n : Nat} {f : Nat → Value} (h : Own w g t n f) {o : Obj} (ho : w.heap[g]? = some o) : o.isCells = true := by
  obtain ⟨cs, hb, _⟩ := h
  rw [hb] at ho
  cases ho
  rfl
theorem ownsRow_cells {W : World} {base : Nat} {e : TypeId} {size : Nat} {v : Value} {n : Nat} {xs : List Value} (h : W.ownsRow base e size v n xs) {k : Nat} (hk : v.ownBlock = some k) {o : Obj} (ho : W.heap[k]? = some o) : o.isCells = true := by
  obtain ⟨h1, h2⟩ := h
  rcases h2 with ⟨rfl, b⟩ | ⟨g, cap, cur, rfl, hb, hh, rest⟩
  · simp [Value.ownBlock] at hk
  · simp [Value.ownBlock] at hk
    subst hk
    rw [hh] at ho
    cases ho
    rfl
end Go.Proofs.Ytmmmgafnmpaohaa
