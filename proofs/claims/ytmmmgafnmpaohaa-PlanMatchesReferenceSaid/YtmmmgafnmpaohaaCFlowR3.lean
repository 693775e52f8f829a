/-
The reference's search: what holds in a round at one edge.
-/
import Derived.Test.YtmmmgafnmpaohaaCFlowR1
namespace Go.Proofs.Ytmmmgafnmpaohaa
open Go.RowKit
set_option linter.unusedVariables false
/-- The cells that a round reads: the graph, the edge's box, the flow along the edge. -/
def RCell (nn N c bx bf of : Nat) (A : Option Addr) (a d : Nat) (ec f : Int) (w W : World) : Prop :=
  W.cell? ⟨w.heap.size, 0, none⟩ = some (.int .i64 nn) ∧ W.cell? ⟨w.heap.size, 1, none⟩ = some (.slice A N c) ∧ W.cell? ⟨bx, 0, none⟩ = some (.int .i64 a) ∧ W.cell? ⟨bx, 1, none⟩ = some (.int .i64 d) ∧ W.cell? ⟨bx, 2, none⟩ = some (.int .i64 ec) ∧ W.cell? ⟨bf, of, none⟩ = some (.int .i64 f)
theorem RCell.mod {nn N c bx bf of : Nat} {A : Option Addr} {a d : Nat} {ec f : Int} {w W W' : World} (h : RCell nn N c bx bf of A a d ec f w W) {M : Nat → Prop} (hm : Mod M W W') (h1 : ¬ M w.heap.size) (h2 : ¬ M bx) (h3 : ¬ M bf) : RCell nn N c bx bf of A a d ec f w W' := by
  obtain ⟨a1, a2, a3, a4, a5, a6⟩ := h
  have l1 := World.block_lt_of_cell? W _ a1
  have l2 := World.block_lt_of_cell? W _ a3
  have l3 := World.block_lt_of_cell? W _ a6
  exact ⟨(hm.cell (p := ⟨w.heap.size, 0, none⟩) l1 h1).trans a1, (hm.cell (p := ⟨w.heap.size, 1, none⟩) l1 h1).trans a2, (hm.cell (p := ⟨bx, 0, none⟩) l2 h2).trans a3, (hm.cell (p := ⟨bx, 1, none⟩) l2 h2).trans a4, (hm.cell (p := ⟨bx, 2, none⟩) l2 h2).trans a5, (hm.cell (p := ⟨bf, of, none⟩) l3 h3).trans a6⟩
theorem RCell.store {nn N c bx bf of : Nat} {A : Option Addr} {a d : Nat} {ec f : Int} {w W : World} (h : RCell nn N c bx bf of A a d ec f w W) {p : Addr} (u : Value) (h1 : w.heap.size ≠ p.block) (h2 : bx ≠ p.block) (h3 : bf ≠ p.block) : RCell nn N c bx bf of A a d ec f w (W.setCell p u) :=
  h.mod (M := fun k => k = p.block) ((Mod.refl (fun k => k = p.block) W).setCell (p := p) (.inl rfl) u) h1 h2 h3
/-- The state of a round. -/
structure InSt (nn N s k u i bx : Nat) (es : List GEdge) (fl : List Int) (w W : World) (v : Value) (seen : List Bool) (st : List GStep) (xs : List Int) : Prop where
  r : RSt nn N (w.heap.size + 3) (w.heap.size + 1) (w.heap.size + 1 + 1) w W v seen st xs
  b : Bfs es fl nn N s nn seen st xs
  k1 : k < xs.length
  k2 : xs.length ≤ nn
  at_ : xs[k]? = some (u : Int)
  dl : DoneL es fl N seen xs k
  dt : DoneTo es fl seen u i
  us : bAt seen u = true
  ob : v.ownBlock ≠ some bx
  lb : bx < W.heap.size
  gb : w.heap.size + 3 ≤ bx
theorem InSt.mark {nn N s k u i bx c bf of : Nat} {es : List GEdge} {fl : List Int} {w W : World} {v : Value} {seen : List Bool} {st : List GStep} {xs : List Int} {A : Option Addr} {a d : Nat} {ec f : Int}
    (h : InSt nn N s k u i bx es fl w W v seen st xs) (hc : RCell nn N c bx bf of A a d ec f w W) (hbf : bf < w.heap.size) (hnn : nn ≤ 64) (x : GStep) (y : Nat) (bb : Int) (hy : y < nn) (hnew : bAt seen y = false) (hu : u < nn) (hg : GoodStep es fl u N x) (hd : x.dst = y) (hb : byOf N x = bb) :
    Appends Try.prog (((W.setCell ⟨w.heap.size + 1, y, none⟩ (.bool true)).setCell ⟨w.heap.size + 1 + 1, y, none⟩ (.int .i64 bb)).alloc (.cells #[.int .i64 y] 3)) 23 23 v (.slice (some ⟨W.heap.size, 0, none⟩) 1 1) ∧
    ∃ v' W3, appV Try.prog (((W.setCell ⟨w.heap.size + 1, y, none⟩ (.bool true)).setCell ⟨w.heap.size + 1 + 1, y, none⟩ (.int .i64 bb)).alloc (.cells #[.int .i64 y] 3)) 23 23 v (.slice (some ⟨W.heap.size, 0, none⟩) 1 1) = v' ∧
      appW Try.prog (((W.setCell ⟨w.heap.size + 1, y, none⟩ (.bool true)).setCell ⟨w.heap.size + 1 + 1, y, none⟩ (.int .i64 bb)).alloc (.cells #[.int .i64 y] 3)) 23 23 v (.slice (some ⟨W.heap.size, 0, none⟩) 1 1) = W3 ∧
      Hid (InSt nn N s k u i bx es fl w W3 v' (seen.set y true) (st.set y x) (xs ++ [(y : Int)])) ∧ Hid (RCell nn N c bx bf of A a d ec f w W3) ∧ Hid (bAt (seen.set y true) y = true) ∧ Hid (∀ q, bAt seen q = true → bAt (seen.set y true) q = true) ∧
      W.cell? ⟨w.heap.size + 1, y, none⟩ = some (.bool false) ∧ W.frozen? ⟨w.heap.size + 1, y, none⟩ = false ∧ (∃ z, (W.setCell ⟨w.heap.size + 1, y, none⟩ (.bool true)).cell? ⟨w.heap.size + 1 + 1, y, none⟩ = some (.int .i64 z)) ∧ (W.setCell ⟨w.heap.size + 1, y, none⟩ (.bool true)).frozen? ⟨w.heap.size + 1 + 1, y, none⟩ = false ∧
      RCell nn N c bx bf of A a d ec f w (W.setCell ⟨w.heap.size + 1, y, none⟩ (.bool true)) ∧ RCell nn N c bx bf of A a d ec f w ((W.setCell ⟨w.heap.size + 1, y, none⟩ (.bool true)).setCell ⟨w.heap.size + 1 + 1, y, none⟩ (.int .i64 bb)) := by
  have hS := h.b.lenS
  have hB := h.b.lenB
  have hgb := h.gb
  obtain ⟨p1, v', W3, p2, p3, p4, p5⟩ := h.r.mark x y bb hS hB hy hb (by have := h.k2; omega)
  have hb2 := h.b.add hy hnew (by omega) hu h.us hg hd
  have own0 : ∀ q, v.ownBlock = some q → w.heap.size + 3 ≤ q := fun q hq => (World.ownsRow.lt h.r.ls q hq).1
  have hM1 : ¬ RMod (w.heap.size + 1) (w.heap.size + 1 + 1) v w.heap.size := by
    rintro (e | e | e)
    · omega
    · omega
    · have := own0 _ e; omega
  have hM2 : ¬ RMod (w.heap.size + 1) (w.heap.size + 1 + 1) v bx := by
    rintro (e | e | e)
    · omega
    · omega
    · exact h.ob e
  have hM3 : ¬ RMod (w.heap.size + 1) (w.heap.size + 1 + 1) v bf := by
    rintro (e | e | e)
    · omega
    · omega
    · have := own0 _ e; omega
  have c1 := hc.store (p := ⟨w.heap.size + 1, y, none⟩) (.bool true) (by simp) (by dsimp only; omega) (by dsimp only; omega)
  have c2 := c1.store (p := ⟨w.heap.size + 1 + 1, y, none⟩) (.int .i64 bb) (by dsimp only; omega) (by dsimp only; omega) (by dsimp only; omega)
  have hs := seen_more (seen := seen) (d := y) (by omega)
  have ob' : v'.ownBlock ≠ some bx := by
    obtain ⟨q1, v2, W4, q2, q3, q4, q5, q6⟩ := app_rows (P := Try.prog) (ty := 23) (c := 1) (m := 1) (base := w.heap.size + 3) (w := ((W.setCell ⟨w.heap.size + 1, y, none⟩ (.bool true)).setCell ⟨w.heap.size + 1 + 1, y, none⟩ (.int .i64 bb)).alloc (.cells #[.int .i64 y] 3)) appInfoInt Try.underlying23 rfl (by omega) encI_len encI_one ((((h.r.ls.other (p := ⟨w.heap.size + 1, y, none⟩) h.r.h1 _).other (p := ⟨w.heap.size + 1 + 1, y, none⟩) h.r.h2 _)).alloc _) (own_int1 _ y) rfl ⟨_, rfl⟩ (by have := h.r.hb; simp [World.setCell]; omega) (by have := h.k2; unfold maxLen; omega) (by have := h.k2; omega)
    have s2 : ((W.setCell ⟨w.heap.size + 1, y, none⟩ (.bool true)).setCell ⟨w.heap.size + 1 + 1, y, none⟩ (.int .i64 bb)).heap.size = W.heap.size := by simp [World.setCell]
    rw [s2] at q2
    rw [World.size_alloc, s2] at q6
    have ev : v2 = v' := q2.symm.trans p2
    rw [← ev]
    intro e
    rcases q6 with q | q
    · rw [q] at e; exact h.ob e
    · rw [q] at e
      have := Option.some.inj e
      have := h.lb
      omega
  refine ⟨p1, v', W3, p2, p3, Lib.hid ⟨p4.out, hb2, ?_, bfs_len hb2, ?_, h.dl.mono (Nat.le_of_lt h.k1) hs, h.dt.mono hs, hs u h.us, ob', Nat.lt_of_lt_of_le h.lb p5.out.size, h.gb⟩, Lib.hid (hc.mod p5.out hM1 hM2 hM3), Lib.hid (by rw [bAt_set (by omega)]; simp), Lib.hid hs, ?_, h.r.sn.frozen y, ⟨byOf N (stAt st y), (h.r.by_.other (p := ⟨w.heap.size + 1, y, none⟩) (by simp) _).cell hy⟩, (h.r.by_.other (p := ⟨w.heap.size + 1, y, none⟩) (by simp) _).frozen y, c1, c2⟩
  · rw [List.length_append]; have := h.k1; omega
  · rw [List.getElem?_append_left h.k1]; exact h.at_
  · have := h.r.sn.cell hy
    rw [hnew] at this
    exact this
theorem InSt.drewN {nn N s k u i bx : Nat} {es : List GEdge} {fl : List Int} {w W : World} {v : Value} {seen : List Bool} {st : List GStep} {xs : List Int} (h : InSt nn N s k u i bx es fl w W v seen st xs) (q : Nat) : InSt nn N s k u i bx es fl w (W.drewN q) v seen st xs :=
  ⟨⟨h.r.sn, h.r.by_, h.r.ls, below_drewN h.r.bel q, h.r.hb, h.r.h1, h.r.h2, h.r.h3, h.r.h4, h.r.h5⟩, h.b, h.k1, h.k2, h.at_, h.dl, h.dt, h.us, h.ob, h.lb, h.gb⟩
theorem RCell.drewN {nn N c bx bf of : Nat} {A : Option Addr} {a d : Nat} {ec f : Int} {w W : World} (h : RCell nn N c bx bf of A a d ec f w W) (q : Nat) : RCell nn N c bx bf of A a d ec f w (W.drewN q) := h
theorem step_fwd {es : List GEdge} {fl : List Int} {N u i : Nat} (hi : i < N) (h1 : (eAt es i).frm = u) (h2 : fAt fl i < (eAt es i).cap) : GoodStep es fl u N ⟨i, (eAt es i).to, (eAt es i).cap - fAt fl i, true⟩ :=
  ⟨i, hi, by unfold mkStep; rw [if_pos h1], by dsimp only; omega, .inl h1⟩
theorem step_bwd {es : List GEdge} {fl : List Int} {N u i : Nat} (hi : i < N) (h0 : (eAt es i).frm ≠ u) (h1 : (eAt es i).to = u) (h2 : 0 < fAt fl i) : GoodStep es fl u N ⟨i, (eAt es i).frm, fAt fl i, false⟩ :=
  ⟨i, hi, by unfold mkStep; rw [if_neg h0], h2, .inr h1⟩
end Go.Proofs.Ytmmmgafnmpaohaa
