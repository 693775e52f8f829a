/-
Several texts in one: TwZ6, TwZ7.
-/
import Derived.Test.YtkbbapefgifagaaGreatDoorCTwZ5
import Derived.Test.YtkbbapefgifagaaGreatDoorCRegK
/-
Two controllers: both in memory.
-/
namespace Go.Proofs.YtkbbapefgifagaaGreatDoor
open Go.RowKit
set_option linter.unusedVariables false
set_option linter.unusedSimpArgs false
theorem HfX.noS {B : Nat} {M N : Nat → Prop} {H n : Nat} {x : Hf} {A : HfAd} {W : World} (h : HfX B M N H n x A W) : HfX B M N H n { x with sent := [] } { A with vS := .slice none 0 0 } W :=
  ⟨h.sh, h.st, h.cp, h.ls, h.ll, h.rm, h.dm, h.pO, h.pI, h.p1, h.p2, h.pC, h.pL, h.pR, h.pD, OwnR.nil _ _, h.oK, h.mH, fun k e => (by cases e), h.mK, fun e => (by cases e), h.kH, fun k e => (by cases e)⟩
theorem HfX.noK {B : Nat} {M N : Nat → Prop} {H n : Nat} {x : Hf} {A : HfAd} {W : World} (h : HfX B M N H n x A W) : HfX B M N H n { x with acks := [] } { A with vK := .slice none 0 0 } W :=
  ⟨h.sh, h.st, h.cp, h.ls, h.ll, h.rm, h.dm, h.pO, h.pI, h.p1, h.p2, h.pC, h.pL, h.pR, h.pD, h.oS, OwnR.nil _ _, h.mH, h.mS, fun k e => (by cases e), h.sH, fun e => (by cases e), fun k _ e => (by cases e)⟩
/-- An append's row is the old one, or new. -/
def NewRow (v v' : Value) (s : Nat) : Prop := v'.ownBlock = v.ownBlock ∨ ∃ q, v'.ownBlock = some q ∧ s ≤ q
/-- One transfer more that was sent. -/
theorem HfX.sentApp {B : Nat} {M N : Nat → Prop} {H n : Nat} {x : Hf} {A : HfAd} {W W' : World} (h : HfX B M N H n x A W) (hn : 0 < n) (hMN : ∀ k, M k → N k) (hH : H < W.heap.size) {v : Value} {s : List Trn} (hr : OwnR 47 2 encTrn W' B v s) (hm : Mod (fun k => A.vS.ownBlock = some k) W W') (hv : NewRow A.vS v W.heap.size) :
    HfX B (fun k => M k ∨ v.ownBlock = some k) (fun k => N k ∨ v.ownBlock = some k) H n { x with sent := s } { A with vS := v } W' := by
  have h0 := h.noS.more (N' := fun k => N k ∨ v.ownBlock = some k) hn (fun k hk => by
    rcases hk with hk | hk
    · exact .inl hk
    · rcases hv with e | ⟨q, e, hq⟩
      · exact .inl (hMN k (h.mS k (by rw [← e]; exact hk)))
      · rw [hk] at e
        injection e with e
        subst e
        exact .inr hq)
  have h2 := (h0.mod hn hm (fun k hk => .inl (hMN k (h.mS k hk))) (fun k _ e => (by cases e)) (fun k hk => h.sK k hk)).mine (M' := fun k => M k ∨ v.ownBlock = some k) (fun k hk => .inl hk)
  refine ⟨h2.sh, h2.st, h2.cp, h2.ls, h2.ll, h2.rm, h2.dm, h2.pO, h2.pI, h2.p1, h2.p2, h2.pC, h2.pL, h2.pR, h2.pD, hr, h2.oK, h2.mH, fun k e => .inr e, h2.mK, ?_, h2.kH, own_ne hr h2.oK (by decide)⟩
  rcases hv with e | ⟨q, e, hq⟩
  · show v.ownBlock ≠ some H
    rw [e]; exact h.sH
  · show v.ownBlock ≠ some H
    rw [e]
    intro e2
    injection e2 with e2
    omega
/-- One acknowledgement more. -/
theorem HfX.ackApp {B : Nat} {M N : Nat → Prop} {H n : Nat} {x : Hf} {A : HfAd} {W W' : World} (h : HfX B M N H n x A W) (hn : 0 < n) (hMN : ∀ k, M k → N k) (hH : H < W.heap.size) {v : Value} {s : List Int} (hr : OwnR 3 1 encI W' B v s) (hm : Mod (fun k => A.vK.ownBlock = some k) W W') (hv : NewRow A.vK v W.heap.size) :
    HfX B (fun k => M k ∨ v.ownBlock = some k) (fun k => N k ∨ v.ownBlock = some k) H n { x with acks := s } { A with vK := v } W' := by
  have h0 := h.noK.more (N' := fun k => N k ∨ v.ownBlock = some k) hn (fun k hk => by
    rcases hk with hk | hk
    · exact .inl hk
    · rcases hv with e | ⟨q, e, hq⟩
      · exact .inl (hMN k (h.mK k (by rw [← e]; exact hk)))
      · rw [hk] at e
        injection e with e
        subst e
        exact .inr hq)
  have h2 := (h0.mod hn hm (fun k hk => .inl (hMN k (h.mK k hk))) (fun k hk e => h.sK k e hk) (fun k _ e => (by cases e))).mine (M' := fun k => M k ∨ v.ownBlock = some k) (fun k hk => .inl hk)
  refine ⟨h2.sh, h2.st, h2.cp, h2.ls, h2.ll, h2.rm, h2.dm, h2.pO, h2.pI, h2.p1, h2.p2, h2.pC, h2.pL, h2.pR, h2.pD, h2.oS, hr, h2.mH, h2.mS, fun k e => .inr e, h2.sH, ?_, fun k hk hk' => own_ne h2.oS hr (by decide) k hk hk'⟩
  rcases hv with e | ⟨q, e, hq⟩
  · show v.ownBlock ≠ some H
    rw [e]; exact h.kH
  · show v.ownBlock ≠ some H
    rw [e]
    intro e2
    injection e2 with e2
    omega
def OrP (M0 M1 : Nat → Prop) : Nat → Prop := fun k => M0 k ∨ M1 k
/-- Both controllers, and the box L that names them. -/
structure PairC (B L : Nat) (lf : Nat → Value) (Hx Hy n m : Nat) (x y : Hf) (M0 M1 : Nat → Prop) (A0 A1 : HfAd) (W : World) : Prop where
  ox : Own W Hx 44 15 (hfF (hfL n x A0))
  xx : HfX B M0 (OrP M0 M1) Hx n x A0 W
  oy : Own W Hy 44 15 (hfF (hfL m y A1))
  yy : HfX B M1 (OrP M0 M1) Hy m y A1 W
  dj : ∀ k, M0 k → ¬ M1 k
  b0 : ∀ k, M0 k → k < W.heap.size
  b1 : ∀ k, M1 k → k < W.heap.size
  l0 : ∀ k, M0 k → B ≤ k
  l1 : ∀ k, M1 k → B ≤ k
  lc : Own W L 26 2 lf
  nL : ¬ M0 L ∧ ¬ M1 L
  hB : B ≤ W.heap.size
def Pair (B L : Nat) (lf : Nat → Value) (Hx Hy n m : Nat) (x y : Hf) (W : World) : Prop := ∃ M0 M1 A0 A1, PairC B L lf Hx Hy n m x y M0 M1 A0 A1 W
theorem HfX.iffN {B : Nat} {M N N' : Nat → Prop} {H n : Nat} {x : Hf} {A : HfAd} {W : World} (h : HfX B M N H n x A W) (hn : 0 < n) (hN : ∀ k, N' k → N k) : HfX B M N' H n x A W := h.more hn (fun k hk => .inl (hN k hk))
theorem PairC.swap {B L : Nat} {lf : Nat → Value} {Hx Hy n m : Nat} {x y : Hf} {M0 M1 : Nat → Prop} {A0 A1 : HfAd} {W : World} (h : PairC B L lf Hx Hy n m x y M0 M1 A0 A1 W) (hn : 0 < n) (hm : 0 < m) : PairC B L lf Hy Hx m n y x M1 M0 A1 A0 W :=
  ⟨h.oy, h.yy.iffN hm (fun k hk => hk.symm), h.ox, h.xx.iffN hn (fun k hk => hk.symm), fun k h1 h0 => h.dj k h0 h1, h.b1, h.b0, h.l1, h.l0, h.lc, h.nL.symm, h.hB⟩
theorem Pair.swap {B L : Nat} {lf : Nat → Value} {Hx Hy n m : Nat} {x y : Hf} {W : World} (h : Pair B L lf Hx Hy n m x y W) (hn : 0 < n) (hm : 0 < m) : Pair B L lf Hy Hx m n y x W := by
  obtain ⟨M0, M1, A0, A1, h⟩ := h
  exact ⟨M1, M0, A1, A0, h.swap hn hm⟩
theorem PairC.keep {B L : Nat} {lf : Nat → Value} {Hx Hy n m : Nat} {x y : Hf} {M0 M1 : Nat → Prop} {A0 A1 : HfAd} {W W' : World} (h : PairC B L lf Hx Hy n m x y M0 M1 A0 A1 W) (hn : 0 < n) (hm : 0 < m) (hb : Below W.heap.size W W') : PairC B L lf Hx Hy n m x y M0 M1 A0 A1 W' :=
  ⟨h.ox.keep hb h.ox.lt, h.xx.keep hn hb, h.oy.keep hb h.oy.lt, h.yy.keep hm hb, h.dj, fun k hk => Nat.lt_of_lt_of_le (h.b0 k hk) hb.size, fun k hk => Nat.lt_of_lt_of_le (h.b1 k hk) hb.size, h.l0, h.l1, h.lc.keep hb h.lc.lt, h.nL, Nat.le_trans h.hB hb.size⟩
/-- One of them changes: its own blocks alone. -/
theorem PairC.upd {B L : Nat} {lf : Nat → Value} {Hx Hy n m : Nat} {x y x' : Hf} {M0 M0' M1 P : Nat → Prop} {A0 A0' A1 : HfAd} {W W' : World} (h : PairC B L lf Hx Hy n m x y M0 M1 A0 A1 W) (hm0 : 0 < m) (hm : Mod P W W') (hP : ∀ k, P k → M0 k)
    (hM : ∀ k, M0' k → M0 k ∨ W.heap.size ≤ k) (hb : ∀ k, M0' k → k < W'.heap.size) (ho : Own W' Hx 44 15 (hfF (hfL n x' A0'))) (hx : HfX B M0' (OrP M0' M1) Hx n x' A0' W') :
    PairC B L lf Hx Hy n m x' y M0' M1 A0' A1 W' ∧ Below B W W' := by
  have hyM : M1 Hy := h.yy.mH
  refine ⟨⟨ho, hx, h.oy.mod hm (fun e => h.dj _ (hP _ e) hyM), ?_, ?_, hb, fun k hk => Nat.lt_of_lt_of_le (h.b1 k hk) hm.size, ?_, h.l1, h.lc.mod hm (fun e => h.nL.1 (hP _ e)), ⟨fun e => ?_, h.nL.2⟩, Nat.le_trans h.hB hm.size⟩, ?_⟩
  · have h1 := h.yy.more (N' := OrP M0' M1) hm0 (fun k hk => by
      rcases hk with hk | hk
      · rcases hM k hk with h2 | h2
        · exact .inl (.inl h2)
        · exact .inr h2
      · exact .inl (.inr hk))
    have h2 : HfX B M1 (fun k => OrP M0' M1 k ∨ M0 k) Hy m y A1 W := h.yy.more hm0 (fun k hk => by
      rcases hk with (hk | hk) | hk
      · rcases hM k hk with h2 | h2
        · exact .inl (.inl h2)
        · exact .inr h2
      · exact .inl (.inr hk)
      · exact .inl (.inl hk))
    exact (h2.mod hm0 hm (fun k hk => .inr (hP k hk)) (fun k hk e => h.dj k (hP k hk) (h.yy.mS k e)) (fun k hk e => h.dj k (hP k hk) (h.yy.mK k e))).iffN hm0 (fun k hk => .inl hk)
  · intro k h0 h1
    rcases hM k h0 with h2 | h2
    · exact h.dj k h2 h1
    · have := h.b1 k h1; omega
  · intro k hk
    rcases hM k hk with h2 | h2
    · exact h.l0 k h2
    · exact Nat.le_trans h.hB h2
  · rcases hM L e with h2 | h2
    · exact h.nL.1 h2
    · have := h.lc.lt; omega
  · exact hm.below h.hB (fun k _ hk => h.l0 k (hP k hk))
/-- Both are new. -/
theorem PairC.start {B L : Nat} {lf : Nat → Value} {Hx Hy n m : Nat} {x y : Hf} {A0 A1 : HfAd} {N0 N1 : Nat → Prop} {W1 W2 W : World} (hn : 0 < n) (hm : 0 < m) (ox : Own W1 Hx 44 15 (hfF (hfL n x A0))) (xx : HfX B (fun k => k = Hx) N0 Hx n x A0 W1) (h0 : N0 Hx) (hb1 : Below W1.heap.size W1 W2) (oy : Own W2 Hy 44 15 (hfF (hfL m y A1))) (yy : HfX B (fun k => k = Hy) N1 Hy m y A1 W2) (h1 : N1 Hx ∧ N1 Hy) (hy : W1.heap.size ≤ Hy) (hb2 : Below W2.heap.size W2 W) (hL : W2.heap.size ≤ L) (lc : Own W L 26 2 lf) (hB : B ≤ Hx) : PairC B L lf Hx Hy n m x y (fun k => k = Hx) (fun k => k = Hy) A0 A1 W := by
  have hx := ox.lt
  have hx2 := xx.more (N' := OrP (fun k => k = Hx) (fun k => k = Hy)) hn (fun k hk => by
    rcases hk with rfl | rfl
    · exact .inl h0
    · exact .inr hy)
  have hy2 := yy.iffN (N' := OrP (fun k => k = Hx) (fun k => k = Hy)) hm (fun k hk => by
    rcases hk with rfl | rfl
    · exact h1.1
    · exact h1.2)
  have hyl := oy.lt
  have s1 := hb1.size
  have s2 := hb2.size
  exact ⟨(ox.keep hb1 hx).keep hb2 (by omega), (hx2.keep hn hb1).keep hn hb2, oy.keep hb2 hyl, hy2.keep hm hb2, fun k e e2 => by omega, fun k e => by omega, fun k e => by omega, fun k e => by omega, fun k e => by omega, lc, ⟨by omega, by omega⟩, by omega⟩
/-- Another share. -/
def shW (W : World) (H : Nat) (hav nxt : Int) (u v : Value) : World := (((W.setCell ⟨H, 0, none⟩ (.int .i64 hav)).setCell ⟨H, 1, none⟩ (.int .i64 nxt)).setCell ⟨H, 2, none⟩ u).setCell ⟨H, 3, none⟩ v
theorem shW_mod (W : World) (H : Nat) (hav nxt : Int) (u v : Value) : Mod (fun k => k = H) W (shW W H hav nxt u v) := by
  unfold shW
  refine Mod.setCell ?_ (.inl ?_) _
  · refine Mod.setCell ?_ (.inl ?_) _
    · refine Mod.setCell ?_ (.inl ?_) _
      · exact (Mod.refl (fun k => k = H) W).setCell (p := ⟨H, 0, none⟩) (.inl rfl) _
      · rfl
    · rfl
  · rfl
theorem PairC.share {B L : Nat} {lf : Nat → Value} {Hx Hy n m : Nat} {x y : Hf} {M0 M1 : Nat → Prop} {A0 A1 : HfAd} {W : World} (h : PairC B L lf Hx Hy n m x y M0 M1 A0 A1 W) (hn : 0 < n) (hm : 0 < m) {s : Shr} {aO : Option Addr} {nO cO : Nat} {aI : Option Addr} {nI cI : Nat} (hr : RdShr W aO nO aI nI s) {z : Nat} (hz : ∀ k, OrP M0 M1 k → k < z) (hO : ∀ p, aO = some p → z ≤ p.block) (hI : ∀ p, aI = some p → z ≤ p.block) :
    PairC B L lf Hx Hy n m { x with sh := s } y M0 M1 { A0 with aO := aO, nO := nO, cO := cO, aI := aI, nI := nI, cI := cI } A1 (shW W Hx s.hav s.nxt (.slice aO nO cO) (.slice aI nI cI)) ∧ Below B W (shW W Hx s.hav s.nxt (.slice aO nO cO) (.slice aI nI cI)) := by
  have hmo := shW_mod W Hx s.hav s.nxt (.slice aO nO cO) (.slice aI nI cI)
  refine h.upd (P := fun k => k = Hx) hm hmo (fun k e => by rw [e]; exact h.xx.mH) (fun k hk => .inl hk) (fun k hk => Nat.lt_of_lt_of_le (h.b0 k hk) hmo.size) ?_ ?_
  · unfold shW
    exact (((h.ox.hfSet (i := 0) (by show 0 < 15; omega) _).hfSet (i := 1) (by show 1 < 15; omega) _).hfSet (i := 2) (by show 2 < 15; omega) _).hfSet (i := 3) (by show 3 < 15; omega) _
  · exact (h.xx.share (cO := cO) (cI := cI) hr (apt_new hz hO) (apt_new hz hI)).hmod hn (fun k hk => .inl hk) hmo
/-- One transfer more. -/
theorem PairC.sent {B L : Nat} {lf : Nat → Value} {Hx Hy n m : Nat} {x y : Hf} {M0 M1 : Nat → Prop} {A0 A1 : HfAd} {W W1 : World} (h : PairC B L lf Hx Hy n m x y M0 M1 A0 A1 W) (hn : 0 < n) (hm : 0 < m) {v : Value} {s : List Trn} (hr : OwnR 47 2 encTrn W1 B v s) (hmo : Mod (fun k => A0.vS.ownBlock = some k) W W1) (hv : NewRow A0.vS v W.heap.size) :
    (∃ M0', PairC B L lf Hx Hy n m { x with sent := s } y M0' M1 { A0 with vS := v } A1 (W1.setCell ⟨Hx, 13, none⟩ v)) ∧ Below B W (W1.setCell ⟨Hx, 13, none⟩ v) := by
  have hx1 := h.xx.sentApp hn (fun k hk => .inl hk) h.ox.lt hr hmo hv
  have ho1 : Own W1 Hx 44 15 (hfF (hfL n x A0)) := h.ox.mod hmo h.xx.sH
  have hset : Mod (fun k => k = Hx) W1 (W1.setCell ⟨Hx, 13, none⟩ v) := (Mod.refl (fun k => k = Hx) W1).setCell (p := ⟨Hx, 13, none⟩) (.inl rfl) _
  have hx2 := hx1.hmod hn (fun k hk => by
    rcases hk with hk | hk
    · exact .inl (.inl hk)
    · exact .inr hk) hset
  have hmm : Mod (fun k => k = Hx ∨ A0.vS.ownBlock = some k) W (W1.setCell ⟨Hx, 13, none⟩ v) := (hmo.mono (fun k _ e => .inr e)).trans (hset.mono (fun k _ e => .inl e))
  have key := h.upd (M0' := fun k => M0 k ∨ v.ownBlock = some k) (x' := { x with sent := s }) (A0' := { A0 with vS := v }) hm hmm (fun k hk => by
      rcases hk with e | e
      · rw [e]; exact h.xx.mH
      · exact h.xx.mS k e) (fun k hk => by
      rcases hk with hk | hk
      · exact .inl hk
      · rcases hv with e | ⟨q, e, hq⟩
        · exact .inl (h.xx.mS k (by rw [← e]; exact hk))
        · rw [hk] at e
          injection e with e
          subst e
          exact .inr hq) (fun k hk => by
      rcases hk with hk | hk
      · exact Nat.lt_of_lt_of_le (h.b0 k hk) hmm.size
      · exact Nat.lt_of_lt_of_le (World.ownsRow.lt hr k hk).2 hset.size)
    (ho1.hfSet (i := 13) (by show 13 < 15; omega) v)
    (hx2.iffN hn (fun k hk => by
      rcases hk with (hk | hk) | hk
      · exact .inl (.inl hk)
      · exact .inr hk
      · exact .inl (.inr hk)))
  exact ⟨⟨_, key.1⟩, key.2⟩
theorem PairC.acks {B L : Nat} {lf : Nat → Value} {Hx Hy n m : Nat} {x y : Hf} {M0 M1 : Nat → Prop} {A0 A1 : HfAd} {W W1 : World} (h : PairC B L lf Hx Hy n m x y M0 M1 A0 A1 W) (hn : 0 < n) (hm : 0 < m) {v : Value} {s : List Int} (hr : OwnR 3 1 encI W1 B v s) (hmo : Mod (fun k => A0.vK.ownBlock = some k) W W1) (hv : NewRow A0.vK v W.heap.size) :
    (∃ M0', PairC B L lf Hx Hy n m { x with acks := s } y M0' M1 { A0 with vK := v } A1 (W1.setCell ⟨Hx, 14, none⟩ v)) ∧ Below B W (W1.setCell ⟨Hx, 14, none⟩ v) := by
  have hx1 := h.xx.ackApp hn (fun k hk => .inl hk) h.ox.lt hr hmo hv
  have ho1 : Own W1 Hx 44 15 (hfF (hfL n x A0)) := h.ox.mod hmo h.xx.kH
  have hset : Mod (fun k => k = Hx) W1 (W1.setCell ⟨Hx, 14, none⟩ v) := (Mod.refl (fun k => k = Hx) W1).setCell (p := ⟨Hx, 14, none⟩) (.inl rfl) _
  have hx2 := hx1.hmod hn (fun k hk => by
    rcases hk with hk | hk
    · exact .inl (.inl hk)
    · exact .inr hk) hset
  have hmm : Mod (fun k => k = Hx ∨ A0.vK.ownBlock = some k) W (W1.setCell ⟨Hx, 14, none⟩ v) := (hmo.mono (fun k _ e => .inr e)).trans (hset.mono (fun k _ e => .inl e))
  have key := h.upd (M0' := fun k => M0 k ∨ v.ownBlock = some k) (x' := { x with acks := s }) (A0' := { A0 with vK := v }) hm hmm (fun k hk => by
      rcases hk with e | e
      · rw [e]; exact h.xx.mH
      · exact h.xx.mK k e) (fun k hk => by
      rcases hk with hk | hk
      · exact .inl hk
      · rcases hv with e | ⟨q, e, hq⟩
        · exact .inl (h.xx.mK k (by rw [← e]; exact hk))
        · rw [hk] at e
          injection e with e
          subst e
          exact .inr hq) (fun k hk => by
      rcases hk with hk | hk
      · exact Nat.lt_of_lt_of_le (h.b0 k hk) hmm.size
      · exact Nat.lt_of_lt_of_le (World.ownsRow.lt hr k hk).2 hset.size)
    (ho1.hfSet (i := 14) (by show 14 < 15; omega) v)
    (hx2.iffN hn (fun k hk => by
      rcases hk with (hk | hk) | hk
      · exact .inl (.inl hk)
      · exact .inr hk
      · exact .inl (.inr hk)))
  exact ⟨⟨_, key.1⟩, key.2⟩
/-- Other demands. -/
theorem PairC.dems {B L : Nat} {lf : Nat → Value} {Hx Hy n m : Nat} {x y : Hf} {M0 M1 : Nat → Prop} {A0 A1 : HfAd} {W W' : World} (h : PairC B L lf Hx Hy n m x y M0 M1 A0 A1 W) (hn : 0 < n) (hm : 0 < m) {wa : Nat → Bool} {bD oD cD : Nat} (hmo : Mod (fun k => k = Hx) W W') (ho : Own W' Hx 44 15 (hfF (hfL n { x with wa := wa } { A0 with bD := bD, oD := oD, cD := cD }))) (hr : DmOk bD oD n wa W') (hp : ¬ OrP M0 M1 bD) :
    PairC B L lf Hx Hy n m { x with wa := wa } y M0 M1 { A0 with bD := bD, oD := oD, cD := cD } A1 W' ∧ Below B W W' :=
  h.upd (P := fun k => k = Hx) hm hmo (fun k e => by rw [e]; exact h.xx.mH) (fun k hk => .inl hk) (fun k hk => Nat.lt_of_lt_of_le (h.b0 k hk) hmo.size) ho ((h.xx.hmod hn (fun k hk => .inl hk) hmo).dems (cD := cD) hr hp)
end Go.Proofs.YtkbbapefgifagaaGreatDoor
/-
Two controllers: the arms of the law's switch.
-/
namespace Go.Proofs.YtkbbapefgifagaaGreatDoor
open Go.RowKit
set_option linter.unusedVariables false
set_option linter.unusedSimpArgs false
/-- The way 'then' of the test of a slot. -/
def findArm (n : Nat) : Code → Option Code
  | .loop c => findArm n c
  | .seq a b => match findArm n a with
    | some c => some c
    | none => findArm n b
  | .block _ c => findArm n c
  | .cond t a b => match t with
    | .tmp k => if k = n then some a else match findArm n a with
      | some c => some c
      | none => findArm n b
    | _ => none
  | _ => none
theorem fr_use {Q : Act → World → Prop} {W : World} {ds : List Deferred} {xs : List Value} (F : (Nat → Value) → List Value) (h : xs = F (fun i => xs.getD i undef)) (hQ : ∀ g, Q ⟨List.toArray (F g), ds⟩ W) : Q ⟨List.toArray xs, ds⟩ W := by
  rw [h]
  exact hQ _
set_option maxRecDepth 100000 in
/-- The frame behind the switch. -/
def frP (k0 k1 k2 k3 k4 k5 k6 k7 k8 k9 k10 k11 k12 k13 k14 k33 k34 k35 k36 k37 k38 k39 k40 k41 k42 k43 k44 k45 k46 k47 k48 k49 k50 k51 k52 k53 k54 k55 k56 k57 k58 k59 k60 k322 : Value) (g : Nat → Value) : List Value :=
  k0 :: k1 :: k2 :: k3 :: k4 :: k5 :: k6 :: k7 :: k8 :: k9 :: k10 :: k11 :: k12 :: k13 :: k14 :: g 15 :: g 16 :: g 17 :: g 18 :: g 19 :: g 20 :: g 21 :: g 22 :: g 23 :: g 24 :: g 25 :: g 26 :: g 27 :: g 28 :: g 29 :: g 30 :: g 31 :: g 32 :: k33 :: k34 :: k35 :: k36 :: k37 :: k38 :: k39 :: k40 :: k41 :: k42 :: k43 :: k44 :: k45 :: k46 :: k47 :: k48 :: k49 :: k50 :: k51 :: k52 :: k53 :: k54 :: k55 :: k56 :: k57 :: k58 :: k59 :: k60 :: g 61 :: g 62 :: g 63 :: g 64 :: g 65 :: g 66 :: g 67 :: g 68 :: g 69 :: g 70 :: g 71 :: g 72 :: g 73 :: g 74 :: g 75 :: g 76 :: g 77 :: g 78 :: g 79 :: g 80 :: g 81 :: g 82 :: g 83 :: g 84 :: g 85 :: g 86 :: g 87 :: g 88 :: g 89 :: g 90 :: g 91 :: g 92 :: g 93 :: g 94 :: g 95 :: g 96 :: g 97 :: g 98 :: g 99 :: g 100 :: g 101 :: g 102 :: g 103 :: g 104 :: g 105 :: g 106 :: g 107 :: g 108 :: g 109 :: g 110 :: g 111 :: g 112 :: g 113 :: g 114 :: g 115 :: g 116 :: g 117 :: g 118 :: g 119 :: g 120 :: g 121 :: g 122 :: g 123 :: g 124 :: g 125 :: g 126 :: g 127 :: g 128 :: g 129 :: g 130 :: g 131 :: g 132 :: g 133 :: g 134 :: g 135 :: g 136 :: g 137 :: g 138 :: g 139 :: g 140 :: g 141 :: g 142 :: g 143 :: g 144 :: g 145 :: g 146 :: g 147 :: g 148 :: g 149 :: g 150 :: g 151 :: g 152 :: g 153 :: g 154 :: g 155 :: g 156 :: g 157 :: g 158 :: g 159 :: g 160 :: g 161 :: g 162 :: g 163 :: g 164 :: g 165 :: g 166 :: g 167 :: g 168 :: g 169 :: g 170 :: g 171 :: g 172 :: g 173 :: g 174 :: g 175 :: g 176 :: g 177 :: g 178 :: g 179 :: g 180 :: g 181 :: g 182 :: g 183 :: g 184 :: g 185 :: g 186 :: g 187 :: g 188 :: g 189 :: g 190 :: g 191 :: g 192 :: g 193 :: g 194 :: g 195 :: g 196 :: g 197 :: g 198 :: g 199 :: g 200 :: g 201 :: g 202 :: g 203 :: g 204 :: g 205 :: g 206 :: g 207 :: g 208 :: g 209 :: g 210 :: g 211 :: g 212 :: g 213 :: g 214 :: g 215 :: g 216 :: g 217 :: g 218 :: g 219 :: g 220 :: g 221 :: g 222 :: g 223 :: g 224 :: g 225 :: g 226 :: g 227 :: g 228 :: g 229 :: g 230 :: g 231 :: g 232 :: g 233 :: g 234 :: g 235 :: g 236 :: g 237 :: g 238 :: g 239 :: g 240 :: g 241 :: g 242 :: g 243 :: g 244 :: g 245 :: g 246 :: g 247 :: g 248 :: g 249 :: g 250 :: g 251 :: g 252 :: g 253 :: g 254 :: g 255 :: g 256 :: g 257 :: g 258 :: g 259 :: g 260 :: g 261 :: g 262 :: g 263 :: g 264 :: g 265 :: g 266 :: g 267 :: g 268 :: g 269 :: g 270 :: g 271 :: g 272 :: g 273 :: g 274 :: g 275 :: g 276 :: g 277 :: g 278 :: g 279 :: g 280 :: g 281 :: g 282 :: g 283 :: g 284 :: g 285 :: g 286 :: g 287 :: g 288 :: g 289 :: g 290 :: g 291 :: g 292 :: g 293 :: g 294 :: g 295 :: g 296 :: g 297 :: g 298 :: g 299 :: g 300 :: g 301 :: g 302 :: g 303 :: g 304 :: g 305 :: g 306 :: g 307 :: g 308 :: g 309 :: g 310 :: g 311 :: g 312 :: g 313 :: g 314 :: g 315 :: g 316 :: g 317 :: g 318 :: g 319 :: g 320 :: g 321 :: k322 :: []
noncomputable def arm4 : Code := ((Tryz.f3.body.bind (findArm 93)).getD .skip)
noncomputable def arm5 : Code := ((Tryz.f3.body.bind (findArm 137)).getD .skip)
noncomputable def arm6 : Code := ((Tryz.f3.body.bind (findArm 190)).getD .skip)
noncomputable def arm7 : Code := ((Tryz.f3.body.bind (findArm 225)).getD .skip)
end Go.Proofs.YtkbbapefgifagaaGreatDoor
