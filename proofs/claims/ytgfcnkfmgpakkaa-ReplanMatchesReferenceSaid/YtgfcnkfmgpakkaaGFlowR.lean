/-
Several texts in one: FlowR1, FlowR3, FlowR5, FlowR2, FlowR7.
-/
import Derived.Test.YtgfcnkfmgpakkaaGWay
import Derived.Test.YtgfcnkfmgpakkaaGAppE
import Derived.Test.YtgfcnkfmgpakkaaGFlowQ
/-
The reference's search: what lies in memory, and what a node that is marked changes.
-/
namespace Go.Proofs.Ytgfcnkfmgpakkaa
open Go.RowKit
theorem encI_len (x : Int) : (encI x).length = 1 := rfl
theorem encI_one (x : Int) (u : Value) (h : u ∈ encI x) : u.oneCell' = true := by
  simp [encI] at h
  subst h
  rfl
theorem appInfoInt : (Try.prog.info? 3).map (fun i => (i.zero, i.size, i.bytes)) = some (some (.int .i64 0), 1, 8) := by kernel_rfl
/-- By which edge a node was found, in the reference's way to say it. -/
def byOf (N : Nat) (x : GStep) : Int := if x.fwd then x.edge else x.edge + N
structure RSt (nn N base gs gb : Nat) (w0 W : World) (v : Value) (seen : List Bool) (st : List GStep) (xs : List Int) : Prop where
  sn : Own W gs 4 nn (fun i => .bool (bAt seen i))
  by_ : Own W gb 3 nn (fun i => .int .i64 (byOf N (stAt st i)))
  ls : OwnR 3 1 encI W base v xs
  bel : Below w0.heap.size w0 W
  hb : base ≤ W.heap.size
  h1 : gs < base
  h2 : gb < base
  h3 : w0.heap.size ≤ gs
  h4 : w0.heap.size ≤ gb
  h5 : gs ≠ gb
theorem RSt.alloc {nn N base gs gb : Nat} {w0 W : World} {v : Value} {seen : List Bool} {st : List GStep} {xs : List Int} (h : RSt nn N base gs gb w0 W v seen st xs) (o : Obj) : RSt nn N base gs gb w0 (W.alloc o) v seen st xs :=
  ⟨h.sn.alloc o, h.by_.alloc o, h.ls.alloc o, h.bel.alloc h.bel.size o, Nat.le_trans h.hb (by simp), h.h1, h.h2, h.h3, h.h4, h.h5⟩
theorem RSt.drew {nn N base gs gb : Nat} {w0 W : World} {v : Value} {seen : List Bool} {st : List GStep} {xs : List Int} (h : RSt nn N base gs gb w0 W v seen st xs) : RSt nn N base gs gb w0 W.drew v seen st xs :=
  ⟨h.sn.drew, h.by_.drew, h.ls, Below.drew h.bel, h.hb, h.h1, h.h2, h.h3, h.h4, h.h5⟩
def RMod (gs gb : Nat) (v : Value) (k : Nat) : Prop := k = gs ∨ k = gb ∨ v.ownBlock = some k
theorem own_int1 (w : World) (x : Int) : Rd 1 encI (w.alloc (.cells #[.int .i64 x] 3)) (some ⟨w.heap.size, 0, none⟩) [x] :=
  (Own.new w 3 #[.int .i64 x] undef).rd (Nat.le_refl _) (fun _ => rfl) (fun k y hy j v hv => by
    have hk : k = 0 := by have := (List.getElem?_eq_some_iff.1 hy).1; simp at this; exact this
    subst hk
    simp at hy
    subst hy
    have hj : j = 0 := by have := (List.getElem?_eq_some_iff.1 hv).1; simp [encI] at this; exact this
    subst hj
    simpa [encI] using hv)
theorem OwnR.other {α : Type} {t : TypeId} {sz : Nat} {enc : α → List Value} {w : World} {base : Nat} {v : Value} {xs : List α} (h : OwnR t sz enc w base v xs) {p : Addr} (hp : p.block < base) (u : Value) : OwnR t sz enc (w.setCell p u) base v xs :=
  h.mod (M := fun k => k = p.block) ((Mod.refl (fun k => k = p.block) w).setCell (p := p) (.inl rfl) u) (fun k hk he => by have := (World.ownsRow.lt h k hk).1; omega)
theorem RSt.mark {nn N base gs gb : Nat} {w0 W : World} {v : Value} {seen : List Bool} {st : List GStep} {xs : List Int} (h : RSt nn N base gs gb w0 W v seen st xs) (x : GStep) (d : Nat) (b : Int) (hS : seen.length = nn) (hB : st.length = nn) (hd : d < nn) (hb : byOf N x = b) (hl : xs.length ≤ 1000000) :
    Appends Try.prog (((W.setCell ⟨gs, d, none⟩ (.bool true)).setCell ⟨gb, d, none⟩ (.int .i64 b)).alloc (.cells #[.int .i64 d] 3)) 23 23 v (.slice (some ⟨W.heap.size, 0, none⟩) 1 1) ∧
    ∃ v' W3, appV Try.prog (((W.setCell ⟨gs, d, none⟩ (.bool true)).setCell ⟨gb, d, none⟩ (.int .i64 b)).alloc (.cells #[.int .i64 d] 3)) 23 23 v (.slice (some ⟨W.heap.size, 0, none⟩) 1 1) = v' ∧
      appW Try.prog (((W.setCell ⟨gs, d, none⟩ (.bool true)).setCell ⟨gb, d, none⟩ (.int .i64 b)).alloc (.cells #[.int .i64 d] 3)) 23 23 v (.slice (some ⟨W.heap.size, 0, none⟩) 1 1) = W3 ∧
      Hid (RSt nn N base gs gb w0 W3 v' (seen.set d true) (st.set d x) (xs ++ [(d : Int)])) ∧ Hid (Mod (RMod gs gb v) W W3) := by
  have s1 : (W.setCell ⟨gs, d, none⟩ (.bool true)).heap.size = W.heap.size := by simp [World.setCell]
  have s2 : ((W.setCell ⟨gs, d, none⟩ (.bool true)).setCell ⟨gb, d, none⟩ (.int .i64 b)).heap.size = W.heap.size := by simp [World.setCell]
  have o1 : Own ((W.setCell ⟨gs, d, none⟩ (.bool true)).setCell ⟨gb, d, none⟩ (.int .i64 b)) gs 4 nn (fun i => .bool (bAt (seen.set d true) i)) :=
    ((h.sn.set d (.bool true)).other h.h5 _).congr (fun i hi => by
      rw [bAt_set (by omega)]
      by_cases e : i = d <;> simp [e])
  have o2 : Own ((W.setCell ⟨gs, d, none⟩ (.bool true)).setCell ⟨gb, d, none⟩ (.int .i64 b)) gb 3 nn (fun i => .int .i64 (byOf N (stAt (st.set d x) i))) :=
    ((h.by_.other (p := ⟨gs, d, none⟩) (Ne.symm h.h5) _).set d (.int .i64 b)).congr (fun i hi => by
      rw [stAt_set (by omega)]
      by_cases e : i = d <;> simp [e, hb])
  have o3 : OwnR 3 1 encI ((W.setCell ⟨gs, d, none⟩ (.bool true)).setCell ⟨gb, d, none⟩ (.int .i64 b)) base v xs := (h.ls.other (p := ⟨gs, d, none⟩) h.h1 _).other (p := ⟨gb, d, none⟩) h.h2 _
  have m2 : Mod (RMod gs gb v) W ((W.setCell ⟨gs, d, none⟩ (.bool true)).setCell ⟨gb, d, none⟩ (.int .i64 b)) := ((Mod.refl _ W).setCell (.inl (.inl rfl)) _).setCell (.inl (.inr (.inl rfl))) _
  have b2 : Below w0.heap.size w0 ((W.setCell ⟨gs, d, none⟩ (.bool true)).setCell ⟨gb, d, none⟩ (.int .i64 b)) := (h.bel.setCell (p := ⟨gs, d, none⟩) h.h3 _).setCell (p := ⟨gb, d, none⟩) h.h4 _
  have hbb := h.hb
  rw [← s2] at hbb
  generalize ((W.setCell ⟨gs, d, none⟩ (.bool true)).setCell ⟨gb, d, none⟩ (.int .i64 b)) = W2 at *
  obtain ⟨p1, v', W3, p2, p3, p4, p5, p6⟩ := app_rows (P := Try.prog) (ty := 23) (c := 1) (m := 1) appInfoInt Try.underlying23 rfl (by omega) encI_len encI_one (o3.alloc (.cells #[.int .i64 d] 3)) (own_int1 W2 d) rfl ⟨_, rfl⟩ (by simp; omega) (by unfold maxLen; omega) (by omega)
  rw [s2] at p1 p2 p3
  have own0 : ∀ k, v.ownBlock = some k → base ≤ k := fun k hk => (World.ownsRow.lt o3 k hk).1
  have m3 : Mod (fun k => v.ownBlock = some k) W2 W3 := ((Mod.refl _ W2).alloc _).trans p5
  refine ⟨p1, v', W3, p2, p3, Lib.hid ⟨o1.mod m3 (fun e => by have := own0 _ e; have := h.h1; omega), o2.mod m3 (fun e => by have := own0 _ e; have := h.h2; omega), p4, ?_, Nat.le_trans hbb m3.size, h.h1, h.h2, h.h3, h.h4, h.h5⟩, Lib.hid ?_⟩
  · exact b2.trans (m3.below b2.size (fun k _ hk => Nat.le_trans (Nat.le_trans h.h3 (Nat.le_of_lt h.h1)) (own0 k hk)))
  · exact m2.trans (m3.mono (fun k _ hk => .inr (.inr hk)))
/-- Of the first i edges all that can be reached from u in one step was found. -/
def DoneTo (es : List GEdge) (fl : List Int) (seen : List Bool) (u i : Nat) : Prop :=
  ∀ j, j < i → ((eAt es j).frm = u → fAt fl j < (eAt es j).cap → bAt seen (eAt es j).to.toNat = true) ∧ ((eAt es j).to = u → 0 < fAt fl j → bAt seen (eAt es j).frm.toNat = true)
theorem DoneTo.mono {es : List GEdge} {fl : List Int} {seen seen' : List Bool} {u i : Nat} (h : DoneTo es fl seen u i) (hs : ∀ v, bAt seen v = true → bAt seen' v = true) : DoneTo es fl seen' u i := fun j hj =>
  ⟨fun a b => hs _ ((h j hj).1 a b), fun a b => hs _ ((h j hj).2 a b)⟩
theorem DoneTo.succ {es : List GEdge} {fl : List Int} {seen : List Bool} {u i : Nat} (h : DoneTo es fl seen u i) (h1 : (eAt es i).frm = u → fAt fl i < (eAt es i).cap → bAt seen (eAt es i).to.toNat = true) (h2 : (eAt es i).to = u → 0 < fAt fl i → bAt seen (eAt es i).frm.toNat = true) : DoneTo es fl seen u (i + 1) := fun j hj => by
  by_cases e : j = i
  · subst e; exact ⟨h1, h2⟩
  · exact h j (by omega)
/-- The nodes before number k of the list are done. -/
def DoneL (es : List GEdge) (fl : List Int) (N : Nat) (seen : List Bool) (xs : List Int) (k : Nat) : Prop :=
  ∀ (j u : Nat), j < k → xs[j]? = some (u : Int) → DoneTo es fl seen u N
theorem DoneL.mono {es : List GEdge} {fl : List Int} {N : Nat} {seen seen' : List Bool} {xs ys : List Int} {k : Nat} (h : DoneL es fl N seen xs k) (hk : k ≤ xs.length) (hs : ∀ v, bAt seen v = true → bAt seen' v = true) : DoneL es fl N seen' (xs ++ ys) k := fun j u hj hx =>
  (h j u hj (by rwa [List.getElem?_append_left (by omega)] at hx)).mono hs
theorem seen_more {seen : List Bool} {d : Nat} (hd : d < seen.length) : ∀ v, bAt seen v = true → bAt (seen.set d true) v = true := fun v hv => by rw [bAt_set hd, hv]; simp
/-- What the search ends with. -/
theorem reach_end {es : List GEdge} {fl : List Int} {nn N s : Nat} {seen : List Bool} {st : List GStep} {xs : List Int} {k : Nat} (h : Bfs es fl nn N s nn seen st xs) (hd : DoneL es fl N seen xs k) (hk : k = xs.length) : ∀ u, u < nn → bAt seen u = true → DoneAt es fl N seen u := by
  intro u hu hus i hi
  obtain ⟨j, hj, e⟩ := List.getElem_of_mem (h.listed u hu hus)
  exact hd j u (by omega) (by rw [List.getElem?_eq_getElem hj, e]) i hi
theorem bfs_len {es : List GEdge} {fl : List Int} {nn N s t : Nat} {seen : List Bool} {st : List GStep} {xs : List Int} (h : Bfs es fl nn N s t seen st xs) : xs.length ≤ nn := by
  rw [← h.cnt, ← h.lenS]
  exact List.count_le_length
def stZero : GStep := ⟨0, 0, 0, true⟩
theorem bfs_start {es : List GEdge} {fl : List Int} {nn N s : Nat} (hs : s < nn) : Bfs es fl nn N s nn ((List.replicate nn false).set s true) (List.replicate nn stZero) [(s : Int)] := by
  have hb : ∀ u, bAt ((List.replicate nn false).set s true) u = if u = s then true else false := by
    intro u
    rw [bAt_set (by simpa using hs)]
    congr 1
    unfold bAt
    rw [List.getElem?_replicate]
    split <;> rfl
  refine ⟨by simp, by simp, by rw [hb]; simp, ⟨fun _ => 0, fun v hv hs' => by simp, fun v hv hvs hne => ?_⟩, fun v hv hvs => ?_, fun x hx => ?_, ?_, ?_⟩
  · rw [hb, if_neg hne] at hvs; cases hvs
  · rw [hb] at hvs
    by_cases e : v = s
    · subst e; simp
    · rw [if_neg e] at hvs; cases hvs
  · simp at hx
    exact ⟨s, hx, hs, by rw [hb]; simp⟩
  · rw [count_set _ _ (by simpa using hs) (by unfold bAt; rw [List.getElem?_replicate, if_pos hs]; rfl), List.count_replicate]
    simp
  · rw [hb, if_neg (by omega)]
end Go.Proofs.Ytgfcnkfmgpakkaa
/-
The reference's search: what holds in a round at one edge.
-/
namespace Go.Proofs.Ytgfcnkfmgpakkaa
open Go.RowKit
set_option linter.unusedVariables false
/-- The cells that a round reads: the graph, the edge's box, the flow along the edge. -/
def RCell (nn N c bx bf of : Nat) (A : Option Addr) (a d : Nat) (ec f : Int) (w W : World) : Prop :=
  W.cell? ⟨w.heap.size, 0, none⟩ = some (.int .i64 nn) ∧ W.cell? ⟨w.heap.size, 1, none⟩ = some (.slice A N c) ∧ W.cell? ⟨bx, 0, none⟩ = some (.int .i64 a) ∧ W.cell? ⟨bx, 1, none⟩ = some (.int .i64 d) ∧ W.cell? ⟨bx, 2, none⟩ = some (.int .i64 ec) ∧ W.cell? ⟨bf, of, none⟩ = some (.int .i64 f)
theorem RCell.mod {nn N c bx bf of : Nat} {A : Option Addr} {a d : Nat} {ec f : Int} {w W W' : World} (h : RCell nn N c bx bf of A a d ec f w W) {M : Nat → Prop} (hm : Mod M W W') (h1 : ¬ M w.heap.size) (h2 : ¬ M bx) (h3 : ¬ M bf) : RCell nn N c bx bf of A a d ec f w W' := by
  obtain ⟨a1, a2, a3, a4, a5, a6⟩ := h
  have l1 := World.block_lt_of_cell? W _ a1
  have l2 := World.block_lt_of_cell? W _ a3
  have l3 := World.block_lt_of_cell? W _ a6
  exact ⟨(hm.cell (p := ⟨w.heap.size, 0, none⟩) l1 h1).trans a1, (hm.cell (p := ⟨w.heap.size, 1, none⟩) l1 h1).trans a2, (hm.cell (p := ⟨bx, 0, none⟩) l2 h2).trans a3, (hm.cell (p := ⟨bx, 1, none⟩) l2 h2).trans a4, (hm.cell (p := ⟨bx, 2, none⟩) l2 h2).trans a5, (hm.cell (p := ⟨bf, of, none⟩) l3 h3).trans a6⟩
theorem RCell.store {nn N c bx bf of : Nat} {A : Option Addr} {a d : Nat} {ec f : Int} {w W : World} (h : RCell nn N c bx bf of A a d ec f w W) {p : Addr} (u : Value) (h1 : w.heap.size ≠ p.block) (h2 : bx ≠ p.block) (h3 : bf ≠ p.block) : RCell nn N c bx bf of A a d ec f w (W.setCell p u) :=
  h.mod (M := fun k => k = p.block) ((Mod.refl (fun k => k = p.block) W).setCell (p := p) (.inl rfl) u) h1 h2 h3
/-- The state of a round. -/
structure InSt (nn N s k u i bx : Nat) (es : List GEdge) (fl : List Int) (w W : World) (v : Value) (seen : List Bool) (st : List GStep) (xs : List Int) : Prop where
  r : RSt nn N (w.heap.size + 3) (w.heap.size + 1) (w.heap.size + 1 + 1) w W v seen st xs
  b : Bfs es fl nn N s nn seen st xs
  k1 : k < xs.length
  k2 : xs.length ≤ nn
  at_ : xs[k]? = some (u : Int)
  dl : DoneL es fl N seen xs k
  dt : DoneTo es fl seen u i
  us : bAt seen u = true
  ob : v.ownBlock ≠ some bx
  lb : bx < W.heap.size
  gb : w.heap.size + 3 ≤ bx
theorem InSt.mark {nn N s k u i bx c bf of : Nat} {es : List GEdge} {fl : List Int} {w W : World} {v : Value} {seen : List Bool} {st : List GStep} {xs : List Int} {A : Option Addr} {a d : Nat} {ec f : Int}
    (h : InSt nn N s k u i bx es fl w W v seen st xs) (hc : RCell nn N c bx bf of A a d ec f w W) (hbf : bf < w.heap.size) (hnn : nn ≤ 64) (x : GStep) (y : Nat) (bb : Int) (hy : y < nn) (hnew : bAt seen y = false) (hu : u < nn) (hg : GoodStep es fl u N x) (hd : x.dst = y) (hb : byOf N x = bb) :
    Appends Try.prog (((W.setCell ⟨w.heap.size + 1, y, none⟩ (.bool true)).setCell ⟨w.heap.size + 1 + 1, y, none⟩ (.int .i64 bb)).alloc (.cells #[.int .i64 y] 3)) 23 23 v (.slice (some ⟨W.heap.size, 0, none⟩) 1 1) ∧
    ∃ v' W3, appV Try.prog (((W.setCell ⟨w.heap.size + 1, y, none⟩ (.bool true)).setCell ⟨w.heap.size + 1 + 1, y, none⟩ (.int .i64 bb)).alloc (.cells #[.int .i64 y] 3)) 23 23 v (.slice (some ⟨W.heap.size, 0, none⟩) 1 1) = v' ∧
      appW Try.prog (((W.setCell ⟨w.heap.size + 1, y, none⟩ (.bool true)).setCell ⟨w.heap.size + 1 + 1, y, none⟩ (.int .i64 bb)).alloc (.cells #[.int .i64 y] 3)) 23 23 v (.slice (some ⟨W.heap.size, 0, none⟩) 1 1) = W3 ∧
      Hid (InSt nn N s k u i bx es fl w W3 v' (seen.set y true) (st.set y x) (xs ++ [(y : Int)])) ∧ Hid (RCell nn N c bx bf of A a d ec f w W3) ∧ Hid (bAt (seen.set y true) y = true) ∧ Hid (∀ q, bAt seen q = true → bAt (seen.set y true) q = true) ∧
      W.cell? ⟨w.heap.size + 1, y, none⟩ = some (.bool false) ∧ W.frozen? ⟨w.heap.size + 1, y, none⟩ = false ∧ (∃ z, (W.setCell ⟨w.heap.size + 1, y, none⟩ (.bool true)).cell? ⟨w.heap.size + 1 + 1, y, none⟩ = some (.int .i64 z)) ∧ (W.setCell ⟨w.heap.size + 1, y, none⟩ (.bool true)).frozen? ⟨w.heap.size + 1 + 1, y, none⟩ = false ∧
      RCell nn N c bx bf of A a d ec f w (W.setCell ⟨w.heap.size + 1, y, none⟩ (.bool true)) ∧ RCell nn N c bx bf of A a d ec f w ((W.setCell ⟨w.heap.size + 1, y, none⟩ (.bool true)).setCell ⟨w.heap.size + 1 + 1, y, none⟩ (.int .i64 bb)) := by
  have hS := h.b.lenS
  have hB := h.b.lenB
  have hgb := h.gb
  obtain ⟨p1, v', W3, p2, p3, p4, p5⟩ := h.r.mark x y bb hS hB hy hb (by have := h.k2; omega)
  have hb2 := h.b.add hy hnew (by omega) hu h.us hg hd
  have own0 : ∀ q, v.ownBlock = some q → w.heap.size + 3 ≤ q := fun q hq => (World.ownsRow.lt h.r.ls q hq).1
  have hM1 : ¬ RMod (w.heap.size + 1) (w.heap.size + 1 + 1) v w.heap.size := by
    rintro (e | e | e)
    · omega
    · omega
    · have := own0 _ e; omega
  have hM2 : ¬ RMod (w.heap.size + 1) (w.heap.size + 1 + 1) v bx := by
    rintro (e | e | e)
    · omega
    · omega
    · exact h.ob e
  have hM3 : ¬ RMod (w.heap.size + 1) (w.heap.size + 1 + 1) v bf := by
    rintro (e | e | e)
    · omega
    · omega
    · have := own0 _ e; omega
  have c1 := hc.store (p := ⟨w.heap.size + 1, y, none⟩) (.bool true) (by simp) (by dsimp only; omega) (by dsimp only; omega)
  have c2 := c1.store (p := ⟨w.heap.size + 1 + 1, y, none⟩) (.int .i64 bb) (by dsimp only; omega) (by dsimp only; omega) (by dsimp only; omega)
  have hs := seen_more (seen := seen) (d := y) (by omega)
  have ob' : v'.ownBlock ≠ some bx := by
    obtain ⟨q1, v2, W4, q2, q3, q4, q5, q6⟩ := app_rows (P := Try.prog) (ty := 23) (c := 1) (m := 1) (base := w.heap.size + 3) (w := ((W.setCell ⟨w.heap.size + 1, y, none⟩ (.bool true)).setCell ⟨w.heap.size + 1 + 1, y, none⟩ (.int .i64 bb)).alloc (.cells #[.int .i64 y] 3)) appInfoInt Try.underlying23 rfl (by omega) encI_len encI_one ((((h.r.ls.other (p := ⟨w.heap.size + 1, y, none⟩) h.r.h1 _).other (p := ⟨w.heap.size + 1 + 1, y, none⟩) h.r.h2 _)).alloc _) (own_int1 _ y) rfl ⟨_, rfl⟩ (by have := h.r.hb; simp [World.setCell]; omega) (by have := h.k2; unfold maxLen; omega) (by have := h.k2; omega)
    have s2 : ((W.setCell ⟨w.heap.size + 1, y, none⟩ (.bool true)).setCell ⟨w.heap.size + 1 + 1, y, none⟩ (.int .i64 bb)).heap.size = W.heap.size := by simp [World.setCell]
    rw [s2] at q2
    rw [World.size_alloc, s2] at q6
    have ev : v2 = v' := q2.symm.trans p2
    rw [← ev]
    intro e
    rcases q6 with q | q
    · rw [q] at e; exact h.ob e
    · rw [q] at e
      have := Option.some.inj e
      have := h.lb
      omega
  refine ⟨p1, v', W3, p2, p3, Lib.hid ⟨p4.out, hb2, ?_, bfs_len hb2, ?_, h.dl.mono (Nat.le_of_lt h.k1) hs, h.dt.mono hs, hs u h.us, ob', Nat.lt_of_lt_of_le h.lb p5.out.size, h.gb⟩, Lib.hid (hc.mod p5.out hM1 hM2 hM3), Lib.hid (by rw [bAt_set (by omega)]; simp), Lib.hid hs, ?_, h.r.sn.frozen y, ⟨byOf N (stAt st y), (h.r.by_.other (p := ⟨w.heap.size + 1, y, none⟩) (by simp) _).cell hy⟩, (h.r.by_.other (p := ⟨w.heap.size + 1, y, none⟩) (by simp) _).frozen y, c1, c2⟩
  · rw [List.length_append]; have := h.k1; omega
  · rw [List.getElem?_append_left h.k1]; exact h.at_
  · have := h.r.sn.cell hy
    rw [hnew] at this
    exact this
theorem InSt.drewN {nn N s k u i bx : Nat} {es : List GEdge} {fl : List Int} {w W : World} {v : Value} {seen : List Bool} {st : List GStep} {xs : List Int} (h : InSt nn N s k u i bx es fl w W v seen st xs) (q : Nat) : InSt nn N s k u i bx es fl w (W.drewN q) v seen st xs :=
  ⟨⟨h.r.sn, h.r.by_, h.r.ls, below_drewN h.r.bel q, h.r.hb, h.r.h1, h.r.h2, h.r.h3, h.r.h4, h.r.h5⟩, h.b, h.k1, h.k2, h.at_, h.dl, h.dt, h.us, h.ob, h.lb, h.gb⟩
theorem RCell.drewN {nn N c bx bf of : Nat} {A : Option Addr} {a d : Nat} {ec f : Int} {w W : World} (h : RCell nn N c bx bf of A a d ec f w W) (q : Nat) : RCell nn N c bx bf of A a d ec f w (W.drewN q) := h
theorem step_fwd {es : List GEdge} {fl : List Int} {N u i : Nat} (hi : i < N) (h1 : (eAt es i).frm = u) (h2 : fAt fl i < (eAt es i).cap) : GoodStep es fl u N ⟨i, (eAt es i).to, (eAt es i).cap - fAt fl i, true⟩ :=
  ⟨i, hi, by unfold mkStep; rw [if_pos h1], by dsimp only; omega, .inl h1⟩
theorem step_bwd {es : List GEdge} {fl : List Int} {N u i : Nat} (hi : i < N) (h0 : (eAt es i).frm ≠ u) (h1 : (eAt es i).to = u) (h2 : 0 < fAt fl i) : GoodStep es fl u N ⟨i, (eAt es i).frm, fAt fl i, false⟩ :=
  ⟨i, hi, by unfold mkStep; rw [if_neg h0], h2, .inr h1⟩
end Go.Proofs.Ytgfcnkfmgpakkaa
/-
The first condition of the reference's search, in any order of its parts.
-/
namespace Go.Proofs.Ytgfcnkfmgpakkaa
open Go.RowKit
set_option linter.unusedVariables false
noncomputable def reachReg : Code := ((Try.f102.body.bind (findRegion 14)).getD .skip)
set_option maxHeartbeats 4000000 in
set_option maxRecDepth 100000 in
theorem reachA (W : World) (gs bx bf of nn N i c2 a d u : Nat) (ec f : Int) (y : Bool) (K : Act → World → Prop) (h1 : a = u) (h2 : f < ec) (h3 : y = false)
  (hi : (i : Int) < (N : Int)) (hd : (d : Int) < (nn : Int)) (r3 : W.cell? ⟨bx, 0, none⟩ = some (.int .i64 a)) (r4 : W.cell? ⟨bx, 1, none⟩ = some (.int .i64 d)) (r5 : W.cell? ⟨bx, 2, none⟩ = some (.int .i64 ec)) (r6 : W.cell? ⟨bf, of + i, none⟩ = some (.int .i64 f)) (sd : W.cell? ⟨gs, d, none⟩ = some (.bool y))
  (u0 u2 u3 u4 u5 u6 u7 u9 u10 u11 u15 u16 u17 u18 u19 u20 u21 u22 u23 u24 u25 u26 u27 u28 u29 u30 u31 u32 u33 u34 u35 u36 u37 u38 u39 u40 u41 u42 u43 u44 u45 u46 u47 u48 u49 u50 u51 u52 u53 u54 u55 u56 u57 u58 u59 u60 u61 u62 u63 u64 u65 u66 u67 u68 u69 u70 u71 u72 u73 u74 u75 u76 u77 u78 u79 u80 u81 u82 u83 u84 u85 u86 u87 u88 u89 u90 u91 u92 u93 u94 u95 u96 u97 u98 u99 u100 u101 u102 u103 u104 u105 u106 u107 u108 u109 u110 u111 u112 u113 u114 u115 u116 u117 u118 u119 u120 u121 u122 u123 : Value)
  (HK : Hid (∀ (nq : Nat) (v50 v51 v52 v53 v54 v55 v56 v57 v58 v59 v60 v61 v62 v63 v64 v65 v66 v67 v68 v69 : Value), K ⟨List.toArray (u0 :: (.slice (some ⟨bf, of, none⟩) N c2) :: u2 :: u3 :: u4 :: u5 :: u6 :: u7 :: (.slice (some ⟨gs, 0, none⟩) nn nn) :: u9 :: u10 :: u11 :: (.int .i64 u) :: (.int .i64 i) :: (.pointer (some ⟨bx, 0, none⟩)) :: u15 :: u16 :: u17 :: u18 :: u19 :: u20 :: u21 :: u22 :: u23 :: u24 :: u25 :: u26 :: u27 :: u28 :: u29 :: u30 :: u31 :: u32 :: u33 :: u34 :: u35 :: u36 :: u37 :: u38 :: u39 :: u40 :: u41 :: u42 :: u43 :: u44 :: u45 :: u46 :: u47 :: u48 :: u49 :: v50 :: v51 :: v52 :: v53 :: v54 :: v55 :: v56 :: v57 :: v58 :: v59 :: v60 :: v61 :: v62 :: v63 :: v64 :: v65 :: v66 :: v67 :: v68 :: v69 :: (.bool true) :: u71 :: u72 :: u73 :: u74 :: u75 :: u76 :: u77 :: u78 :: u79 :: u80 :: u81 :: u82 :: u83 :: u84 :: u85 :: u86 :: u87 :: u88 :: u89 :: u90 :: u91 :: u92 :: u93 :: u94 :: u95 :: u96 :: u97 :: u98 :: u99 :: u100 :: u101 :: u102 :: u103 :: u104 :: u105 :: u106 :: u107 :: u108 :: u109 :: u110 :: u111 :: u112 :: u113 :: u114 :: u115 :: u116 :: u117 :: u118 :: u119 :: u120 :: u121 :: u122 :: u123 :: []), []⟩ (W.drewN nq))) :
  Code.wp Try.prog reachReg (Exit.then K fun _ _ _ => False) ⟨List.toArray (u0 :: (.slice (some ⟨bf, of, none⟩) N c2) :: u2 :: u3 :: u4 :: u5 :: u6 :: u7 :: (.slice (some ⟨gs, 0, none⟩) nn nn) :: u9 :: u10 :: u11 :: (.int .i64 u) :: (.int .i64 i) :: (.pointer (some ⟨bx, 0, none⟩)) :: u15 :: u16 :: u17 :: u18 :: u19 :: u20 :: u21 :: u22 :: u23 :: u24 :: u25 :: u26 :: u27 :: u28 :: u29 :: u30 :: u31 :: u32 :: u33 :: u34 :: u35 :: u36 :: u37 :: u38 :: u39 :: u40 :: u41 :: u42 :: u43 :: u44 :: u45 :: u46 :: u47 :: u48 :: u49 :: u50 :: u51 :: u52 :: u53 :: u54 :: u55 :: u56 :: u57 :: u58 :: u59 :: u60 :: u61 :: u62 :: u63 :: u64 :: u65 :: u66 :: u67 :: u68 :: u69 :: u70 :: u71 :: u72 :: u73 :: u74 :: u75 :: u76 :: u77 :: u78 :: u79 :: u80 :: u81 :: u82 :: u83 :: u84 :: u85 :: u86 :: u87 :: u88 :: u89 :: u90 :: u91 :: u92 :: u93 :: u94 :: u95 :: u96 :: u97 :: u98 :: u99 :: u100 :: u101 :: u102 :: u103 :: u104 :: u105 :: u106 :: u107 :: u108 :: u109 :: u110 :: u111 :: u112 :: u113 :: u114 :: u115 :: u116 :: u117 :: u118 :: u119 :: u120 :: u121 :: u122 :: u123 :: []), []⟩ W := by
  have hb1 : ((a : Int) == (u : Int)) = true := by rw [h1]; simp
  subst h3
  conv => arg 2; whnf
  go_quiet (fail)
  exact HK.out _ _ _ _ _ _ _ _ _ _ _ _ _ _ _ _ _ _ _ _ _
set_option maxHeartbeats 4000000 in
set_option maxRecDepth 100000 in
theorem reachB (W : World) (gs bx bf of nn N i c2 a d u : Nat) (ec f : Int) (y : Bool) (K : Act → World → Prop) (h1 : a = u) (h2 : f < ec) (h3 : y = true)
  (hi : (i : Int) < (N : Int)) (hd : (d : Int) < (nn : Int)) (r3 : W.cell? ⟨bx, 0, none⟩ = some (.int .i64 a)) (r4 : W.cell? ⟨bx, 1, none⟩ = some (.int .i64 d)) (r5 : W.cell? ⟨bx, 2, none⟩ = some (.int .i64 ec)) (r6 : W.cell? ⟨bf, of + i, none⟩ = some (.int .i64 f)) (sd : W.cell? ⟨gs, d, none⟩ = some (.bool y))
  (u0 u2 u3 u4 u5 u6 u7 u9 u10 u11 u15 u16 u17 u18 u19 u20 u21 u22 u23 u24 u25 u26 u27 u28 u29 u30 u31 u32 u33 u34 u35 u36 u37 u38 u39 u40 u41 u42 u43 u44 u45 u46 u47 u48 u49 u50 u51 u52 u53 u54 u55 u56 u57 u58 u59 u60 u61 u62 u63 u64 u65 u66 u67 u68 u69 u70 u71 u72 u73 u74 u75 u76 u77 u78 u79 u80 u81 u82 u83 u84 u85 u86 u87 u88 u89 u90 u91 u92 u93 u94 u95 u96 u97 u98 u99 u100 u101 u102 u103 u104 u105 u106 u107 u108 u109 u110 u111 u112 u113 u114 u115 u116 u117 u118 u119 u120 u121 u122 u123 : Value)
  (HK : Hid (∀ (nq : Nat) (v50 v51 v52 v53 v54 v55 v56 v57 v58 v59 v60 v61 v62 v63 v64 v65 v66 v67 v68 v69 : Value), K ⟨List.toArray (u0 :: (.slice (some ⟨bf, of, none⟩) N c2) :: u2 :: u3 :: u4 :: u5 :: u6 :: u7 :: (.slice (some ⟨gs, 0, none⟩) nn nn) :: u9 :: u10 :: u11 :: (.int .i64 u) :: (.int .i64 i) :: (.pointer (some ⟨bx, 0, none⟩)) :: u15 :: u16 :: u17 :: u18 :: u19 :: u20 :: u21 :: u22 :: u23 :: u24 :: u25 :: u26 :: u27 :: u28 :: u29 :: u30 :: u31 :: u32 :: u33 :: u34 :: u35 :: u36 :: u37 :: u38 :: u39 :: u40 :: u41 :: u42 :: u43 :: u44 :: u45 :: u46 :: u47 :: u48 :: u49 :: v50 :: v51 :: v52 :: v53 :: v54 :: v55 :: v56 :: v57 :: v58 :: v59 :: v60 :: v61 :: v62 :: v63 :: v64 :: v65 :: v66 :: v67 :: v68 :: v69 :: (.bool false) :: u71 :: u72 :: u73 :: u74 :: u75 :: u76 :: u77 :: u78 :: u79 :: u80 :: u81 :: u82 :: u83 :: u84 :: u85 :: u86 :: u87 :: u88 :: u89 :: u90 :: u91 :: u92 :: u93 :: u94 :: u95 :: u96 :: u97 :: u98 :: u99 :: u100 :: u101 :: u102 :: u103 :: u104 :: u105 :: u106 :: u107 :: u108 :: u109 :: u110 :: u111 :: u112 :: u113 :: u114 :: u115 :: u116 :: u117 :: u118 :: u119 :: u120 :: u121 :: u122 :: u123 :: []), []⟩ (W.drewN nq))) :
  Code.wp Try.prog reachReg (Exit.then K fun _ _ _ => False) ⟨List.toArray (u0 :: (.slice (some ⟨bf, of, none⟩) N c2) :: u2 :: u3 :: u4 :: u5 :: u6 :: u7 :: (.slice (some ⟨gs, 0, none⟩) nn nn) :: u9 :: u10 :: u11 :: (.int .i64 u) :: (.int .i64 i) :: (.pointer (some ⟨bx, 0, none⟩)) :: u15 :: u16 :: u17 :: u18 :: u19 :: u20 :: u21 :: u22 :: u23 :: u24 :: u25 :: u26 :: u27 :: u28 :: u29 :: u30 :: u31 :: u32 :: u33 :: u34 :: u35 :: u36 :: u37 :: u38 :: u39 :: u40 :: u41 :: u42 :: u43 :: u44 :: u45 :: u46 :: u47 :: u48 :: u49 :: u50 :: u51 :: u52 :: u53 :: u54 :: u55 :: u56 :: u57 :: u58 :: u59 :: u60 :: u61 :: u62 :: u63 :: u64 :: u65 :: u66 :: u67 :: u68 :: u69 :: u70 :: u71 :: u72 :: u73 :: u74 :: u75 :: u76 :: u77 :: u78 :: u79 :: u80 :: u81 :: u82 :: u83 :: u84 :: u85 :: u86 :: u87 :: u88 :: u89 :: u90 :: u91 :: u92 :: u93 :: u94 :: u95 :: u96 :: u97 :: u98 :: u99 :: u100 :: u101 :: u102 :: u103 :: u104 :: u105 :: u106 :: u107 :: u108 :: u109 :: u110 :: u111 :: u112 :: u113 :: u114 :: u115 :: u116 :: u117 :: u118 :: u119 :: u120 :: u121 :: u122 :: u123 :: []), []⟩ W := by
  have hb1 : ((a : Int) == (u : Int)) = true := by rw [h1]; simp
  subst h3
  conv => arg 2; whnf
  go_quiet (fail)
  exact HK.out _ _ _ _ _ _ _ _ _ _ _ _ _ _ _ _ _ _ _ _ _
set_option maxHeartbeats 4000000 in
set_option maxRecDepth 100000 in
theorem reachC (W : World) (gs bx bf of nn N i c2 a d u : Nat) (ec f : Int) (y : Bool) (K : Act → World → Prop) (h1 : a = u) (h2 : ec ≤ f)
  (hi : (i : Int) < (N : Int)) (hd : (d : Int) < (nn : Int)) (r3 : W.cell? ⟨bx, 0, none⟩ = some (.int .i64 a)) (r4 : W.cell? ⟨bx, 1, none⟩ = some (.int .i64 d)) (r5 : W.cell? ⟨bx, 2, none⟩ = some (.int .i64 ec)) (r6 : W.cell? ⟨bf, of + i, none⟩ = some (.int .i64 f)) (sd : W.cell? ⟨gs, d, none⟩ = some (.bool y))
  (u0 u2 u3 u4 u5 u6 u7 u9 u10 u11 u15 u16 u17 u18 u19 u20 u21 u22 u23 u24 u25 u26 u27 u28 u29 u30 u31 u32 u33 u34 u35 u36 u37 u38 u39 u40 u41 u42 u43 u44 u45 u46 u47 u48 u49 u50 u51 u52 u53 u54 u55 u56 u57 u58 u59 u60 u61 u62 u63 u64 u65 u66 u67 u68 u69 u70 u71 u72 u73 u74 u75 u76 u77 u78 u79 u80 u81 u82 u83 u84 u85 u86 u87 u88 u89 u90 u91 u92 u93 u94 u95 u96 u97 u98 u99 u100 u101 u102 u103 u104 u105 u106 u107 u108 u109 u110 u111 u112 u113 u114 u115 u116 u117 u118 u119 u120 u121 u122 u123 : Value)
  (HK : Hid (∀ (nq : Nat) (v50 v51 v52 v53 v54 v55 v56 v57 v58 v59 v60 v61 v62 v63 v64 v65 v66 v67 v68 v69 : Value), K ⟨List.toArray (u0 :: (.slice (some ⟨bf, of, none⟩) N c2) :: u2 :: u3 :: u4 :: u5 :: u6 :: u7 :: (.slice (some ⟨gs, 0, none⟩) nn nn) :: u9 :: u10 :: u11 :: (.int .i64 u) :: (.int .i64 i) :: (.pointer (some ⟨bx, 0, none⟩)) :: u15 :: u16 :: u17 :: u18 :: u19 :: u20 :: u21 :: u22 :: u23 :: u24 :: u25 :: u26 :: u27 :: u28 :: u29 :: u30 :: u31 :: u32 :: u33 :: u34 :: u35 :: u36 :: u37 :: u38 :: u39 :: u40 :: u41 :: u42 :: u43 :: u44 :: u45 :: u46 :: u47 :: u48 :: u49 :: v50 :: v51 :: v52 :: v53 :: v54 :: v55 :: v56 :: v57 :: v58 :: v59 :: v60 :: v61 :: v62 :: v63 :: v64 :: v65 :: v66 :: v67 :: v68 :: v69 :: (.bool false) :: u71 :: u72 :: u73 :: u74 :: u75 :: u76 :: u77 :: u78 :: u79 :: u80 :: u81 :: u82 :: u83 :: u84 :: u85 :: u86 :: u87 :: u88 :: u89 :: u90 :: u91 :: u92 :: u93 :: u94 :: u95 :: u96 :: u97 :: u98 :: u99 :: u100 :: u101 :: u102 :: u103 :: u104 :: u105 :: u106 :: u107 :: u108 :: u109 :: u110 :: u111 :: u112 :: u113 :: u114 :: u115 :: u116 :: u117 :: u118 :: u119 :: u120 :: u121 :: u122 :: u123 :: []), []⟩ (W.drewN nq))) :
  Code.wp Try.prog reachReg (Exit.then K fun _ _ _ => False) ⟨List.toArray (u0 :: (.slice (some ⟨bf, of, none⟩) N c2) :: u2 :: u3 :: u4 :: u5 :: u6 :: u7 :: (.slice (some ⟨gs, 0, none⟩) nn nn) :: u9 :: u10 :: u11 :: (.int .i64 u) :: (.int .i64 i) :: (.pointer (some ⟨bx, 0, none⟩)) :: u15 :: u16 :: u17 :: u18 :: u19 :: u20 :: u21 :: u22 :: u23 :: u24 :: u25 :: u26 :: u27 :: u28 :: u29 :: u30 :: u31 :: u32 :: u33 :: u34 :: u35 :: u36 :: u37 :: u38 :: u39 :: u40 :: u41 :: u42 :: u43 :: u44 :: u45 :: u46 :: u47 :: u48 :: u49 :: u50 :: u51 :: u52 :: u53 :: u54 :: u55 :: u56 :: u57 :: u58 :: u59 :: u60 :: u61 :: u62 :: u63 :: u64 :: u65 :: u66 :: u67 :: u68 :: u69 :: u70 :: u71 :: u72 :: u73 :: u74 :: u75 :: u76 :: u77 :: u78 :: u79 :: u80 :: u81 :: u82 :: u83 :: u84 :: u85 :: u86 :: u87 :: u88 :: u89 :: u90 :: u91 :: u92 :: u93 :: u94 :: u95 :: u96 :: u97 :: u98 :: u99 :: u100 :: u101 :: u102 :: u103 :: u104 :: u105 :: u106 :: u107 :: u108 :: u109 :: u110 :: u111 :: u112 :: u113 :: u114 :: u115 :: u116 :: u117 :: u118 :: u119 :: u120 :: u121 :: u122 :: u123 :: []), []⟩ W := by
  have hb1 : ((a : Int) == (u : Int)) = true := by rw [h1]; simp
  have h2' : ¬ f < ec := by omega
  conv => arg 2; whnf
  go_quiet (fail)
  exact HK.out _ _ _ _ _ _ _ _ _ _ _ _ _ _ _ _ _ _ _ _ _
set_option maxHeartbeats 4000000 in
set_option maxRecDepth 100000 in
theorem reachD (W : World) (gs bx bf of nn N i c2 a d u : Nat) (ec f : Int) (y : Bool) (K : Act → World → Prop) (h1 : a ≠ u)
  (hi : (i : Int) < (N : Int)) (hd : (d : Int) < (nn : Int)) (r3 : W.cell? ⟨bx, 0, none⟩ = some (.int .i64 a)) (r4 : W.cell? ⟨bx, 1, none⟩ = some (.int .i64 d)) (r5 : W.cell? ⟨bx, 2, none⟩ = some (.int .i64 ec)) (r6 : W.cell? ⟨bf, of + i, none⟩ = some (.int .i64 f)) (sd : W.cell? ⟨gs, d, none⟩ = some (.bool y))
  (u0 u2 u3 u4 u5 u6 u7 u9 u10 u11 u15 u16 u17 u18 u19 u20 u21 u22 u23 u24 u25 u26 u27 u28 u29 u30 u31 u32 u33 u34 u35 u36 u37 u38 u39 u40 u41 u42 u43 u44 u45 u46 u47 u48 u49 u50 u51 u52 u53 u54 u55 u56 u57 u58 u59 u60 u61 u62 u63 u64 u65 u66 u67 u68 u69 u70 u71 u72 u73 u74 u75 u76 u77 u78 u79 u80 u81 u82 u83 u84 u85 u86 u87 u88 u89 u90 u91 u92 u93 u94 u95 u96 u97 u98 u99 u100 u101 u102 u103 u104 u105 u106 u107 u108 u109 u110 u111 u112 u113 u114 u115 u116 u117 u118 u119 u120 u121 u122 u123 : Value)
  (HK : Hid (∀ (nq : Nat) (v50 v51 v52 v53 v54 v55 v56 v57 v58 v59 v60 v61 v62 v63 v64 v65 v66 v67 v68 v69 : Value), K ⟨List.toArray (u0 :: (.slice (some ⟨bf, of, none⟩) N c2) :: u2 :: u3 :: u4 :: u5 :: u6 :: u7 :: (.slice (some ⟨gs, 0, none⟩) nn nn) :: u9 :: u10 :: u11 :: (.int .i64 u) :: (.int .i64 i) :: (.pointer (some ⟨bx, 0, none⟩)) :: u15 :: u16 :: u17 :: u18 :: u19 :: u20 :: u21 :: u22 :: u23 :: u24 :: u25 :: u26 :: u27 :: u28 :: u29 :: u30 :: u31 :: u32 :: u33 :: u34 :: u35 :: u36 :: u37 :: u38 :: u39 :: u40 :: u41 :: u42 :: u43 :: u44 :: u45 :: u46 :: u47 :: u48 :: u49 :: v50 :: v51 :: v52 :: v53 :: v54 :: v55 :: v56 :: v57 :: v58 :: v59 :: v60 :: v61 :: v62 :: v63 :: v64 :: v65 :: v66 :: v67 :: v68 :: v69 :: (.bool false) :: u71 :: u72 :: u73 :: u74 :: u75 :: u76 :: u77 :: u78 :: u79 :: u80 :: u81 :: u82 :: u83 :: u84 :: u85 :: u86 :: u87 :: u88 :: u89 :: u90 :: u91 :: u92 :: u93 :: u94 :: u95 :: u96 :: u97 :: u98 :: u99 :: u100 :: u101 :: u102 :: u103 :: u104 :: u105 :: u106 :: u107 :: u108 :: u109 :: u110 :: u111 :: u112 :: u113 :: u114 :: u115 :: u116 :: u117 :: u118 :: u119 :: u120 :: u121 :: u122 :: u123 :: []), []⟩ (W.drewN nq))) :
  Code.wp Try.prog reachReg (Exit.then K fun _ _ _ => False) ⟨List.toArray (u0 :: (.slice (some ⟨bf, of, none⟩) N c2) :: u2 :: u3 :: u4 :: u5 :: u6 :: u7 :: (.slice (some ⟨gs, 0, none⟩) nn nn) :: u9 :: u10 :: u11 :: (.int .i64 u) :: (.int .i64 i) :: (.pointer (some ⟨bx, 0, none⟩)) :: u15 :: u16 :: u17 :: u18 :: u19 :: u20 :: u21 :: u22 :: u23 :: u24 :: u25 :: u26 :: u27 :: u28 :: u29 :: u30 :: u31 :: u32 :: u33 :: u34 :: u35 :: u36 :: u37 :: u38 :: u39 :: u40 :: u41 :: u42 :: u43 :: u44 :: u45 :: u46 :: u47 :: u48 :: u49 :: u50 :: u51 :: u52 :: u53 :: u54 :: u55 :: u56 :: u57 :: u58 :: u59 :: u60 :: u61 :: u62 :: u63 :: u64 :: u65 :: u66 :: u67 :: u68 :: u69 :: u70 :: u71 :: u72 :: u73 :: u74 :: u75 :: u76 :: u77 :: u78 :: u79 :: u80 :: u81 :: u82 :: u83 :: u84 :: u85 :: u86 :: u87 :: u88 :: u89 :: u90 :: u91 :: u92 :: u93 :: u94 :: u95 :: u96 :: u97 :: u98 :: u99 :: u100 :: u101 :: u102 :: u103 :: u104 :: u105 :: u106 :: u107 :: u108 :: u109 :: u110 :: u111 :: u112 :: u113 :: u114 :: u115 :: u116 :: u117 :: u118 :: u119 :: u120 :: u121 :: u122 :: u123 :: []), []⟩ W := by
  have hb1 : ((a : Int) == (u : Int)) = false := by rw [beq_eq_false_iff_ne]; omega
  conv => arg 2; whnf
  go_quiet (fail)
  exact HK.out _ _ _ _ _ _ _ _ _ _ _ _ _ _ _ _ _ _ _ _ _
end Go.Proofs.Ytgfcnkfmgpakkaa
/-
The reference's search, walked.
-/
namespace Go.Proofs.Ytgfcnkfmgpakkaa
open Go.RowKit
set_option linter.unusedVariables false
theorem mk_opq {P : Program} (t e : TypeId) (z : Value) (bytes : Nat) (ht : P.underlying t = some (.slice e)) (hinfo : (P.info? e).map (fun i => (i.zero, i.size, i.bytes)) = some (some z, 1, bytes)) (hz : z.cells = #[z])
    (n : Nat) (hb : bytes * n ≤ 281474976710656) (h63 : n ≤ 9223372036854775807) :
    ∃ mc : Array Value, (∀ W : World, (Instr.makeSlice t (.int .i64 n) (.int .i64 n)).run P W = .ok (.slice (some ⟨W.heap.size, 0, none⟩) n n) (W.alloc (.cells mc e))) ∧ ∀ (W : World) (g : Nat), W.heap.size = g → Own (W.alloc (.cells mc e)) g e n (fun _ => z) := by
  refine ⟨madeCells #[z] (n * 1), fun W => ?_, fun W g hg => ?_⟩
  · have := mk_row (P := P) t e z 1 bytes ht hinfo (n : Int) (by omega) (by omega) (by omega) W
    rw [hz] at this
    simpa using this
  · subst hg
    exact Own.made1 W e z n
def ReachPost (w : World) (nn N s : Nat) (es : List GEdge) (fl : List Int) (e : Ending) (w' : World) : Prop :=
  ∃ gs gb seen st, e = .returned (.tuple #[.slice (some ⟨gs, 0, none⟩) nn nn, .slice (some ⟨gb, 0, none⟩) nn nn]) ∧ Own w' gs 4 nn (fun i => .bool (bAt seen i)) ∧ Own w' gb 3 nn (fun i => .int .i64 (byOf N (stAt st i))) ∧ Below w.heap.size w w' ∧ w.heap.size ≤ gs ∧ w.heap.size ≤ gb ∧ gs ≠ gb ∧
    seen.length = nn ∧ st.length = nn ∧ bAt seen s = true ∧ (∃ rk, TreeAt es fl nn N s seen st rk) ∧ ∀ u, u < nn → bAt seen u = true → DoneAt es fl N seen u
set_option maxRecDepth 100000 in
set_option maxHeartbeats 8000000 in
theorem rfReached_any (nn c N s c2 : Nat) (A A2 : Option Addr) (es : List GEdge) (fl : List Int) (w : World) (hR : Rd 3 encE w A es) (HN : Hid (es.length = N)) (HE : Hid (okG nn es = true)) (hs : s < nn) (hR2 : Rd 1 encI w A2 fl) (HN2 : Hid (fl.length = N)) :
    Calls Try.prog 102 #[.agg #[.int .i64 nn, .slice A N c], .slice A2 N c2, .int .i64 s] w (ReachPost w nn N s es fl) := by
  obtain ⟨n1, n2, hl⟩ := (okG_iff.1 HE.out).1
  rw [HN.out] at hl
  obtain ⟨mb, hmk, hmb⟩ := mk_opq (P := Try.prog) 75 4 (.bool false) 1 Try.underlying75 infoBool rfl nn (by omega) (by omega)
  obtain ⟨mi, hmk2, hmi⟩ := mk_opq (P := Try.prog) 23 3 (.int .i64 0) 8 Try.underlying23 infoInt rfl nn (by omega) (by omega)
  have Hmb := Lib.hid hmb
  have Hmi := Lib.hid hmi
  clear hmb hmi
  have hsz : (s : Int) < (nn : Int) := by omega
  go_enter Try.func102, Try.ntmps102
  go_upto_region 3 with (fail)
  refine wp_world (fun W => Own W (w.heap.size + 1) 4 nn (fun _ => .bool false) ∧ Own W (w.heap.size + 1 + 1) 3 nn (fun _ => .int .i64 0) ∧ W.cell? ⟨w.heap.size, 0, none⟩ = some (.int .i64 nn) ∧ W.cell? ⟨w.heap.size, 1, none⟩ = some (.slice A N c) ∧ Below w.heap.size w W ∧ W.heap.size = w.heap.size + 3) ⟨(Hmb.out _ _ (by simp)).alloc _, Hmi.out _ _ (by simp), by go_simp, by go_simp, (((Below.refl _ w).alloc (Nat.le_refl _) _).alloc (by simp) _).alloc (by simp; omega) _, by simp⟩ ?_
  rintro W2 ⟨o1, o2, k0, k1, b2, hsz2⟩
  clear hmk hmk2 Hmb Hmi
  have x1 := o1.cell hs
  have x2 := o1.frozen s
  have ob := (o1.set s (.bool true)).congr (f' := fun i => .bool (bAt ((List.replicate nn false).set s true) i)) (fun i hi => by
    rw [bAt_set (by simpa using hs)]
    by_cases e : i = s
    · simp [e]
    · have : bAt (List.replicate nn false) i = false := by unfold bAt; rw [List.getElem?_replicate, if_pos hi]; rfl
      simp [e, this])
  have oi := (o2.other (p := ⟨w.heap.size + 1, s, none⟩) (by simp) (.bool true)).congr (f' := fun i => .int .i64 (byOf N (stAt (List.replicate nn stZero) i))) (fun i hi => by
    have : stAt (List.replicate nn stZero) i = stZero := by unfold stAt; rw [List.getElem?_replicate, if_pos hi]; rfl
    rw [this]; rfl)
  have hb3 := b2.setCell (p := ⟨w.heap.size + 1, s, none⟩) (Nat.le_succ _) (.bool true)
  have hs3 : (W2.setCell ⟨w.heap.size + 1, s, none⟩ (.bool true)).heap.size = w.heap.size + 3 := by rw [← hsz2]; simp [World.setCell]
  have k03 : (W2.setCell ⟨w.heap.size + 1, s, none⟩ (.bool true)).cell? ⟨w.heap.size, 0, none⟩ = some (.int .i64 nn) := by rw [World.cell?_setCell_far _ _ _ _ (by simp)]; exact k0
  have k13 : (W2.setCell ⟨w.heap.size + 1, s, none⟩ (.bool true)).cell? ⟨w.heap.size, 1, none⟩ = some (.slice A N c) := by rw [World.cell?_setCell_far _ _ _ _ (by simp)]; exact k1
  obtain ⟨p1, v0, W0, p2, p3, p4, p5, _⟩ := app_rows (P := Try.prog) (ty := 23) (c := 1) (m := 1) (base := w.heap.size + 3) (w := (W2.setCell ⟨w.heap.size + 1, s, none⟩ (.bool true)).alloc (.cells #[.int .i64 s] 3)) appInfoInt Try.underlying23 rfl (by omega) encI_len encI_one (OwnR.nil (t := 3) (sz := 1) (enc := encI) _ _) (own_int1 _ s) rfl ⟨_, rfl⟩ (by rw [World.size_alloc, hs3]; omega) (by simp; unfold maxLen; omega) (by simp)
  rw [hs3] at p1 p2 p3
  have m5 : Mod (fun _ => False) (W2.setCell ⟨w.heap.size + 1, s, none⟩ (.bool true)) W0 := ((Mod.refl _ _).alloc _).trans (p5.mono (fun k _ hk => by cases hk))
  have RS : Hid (RSt nn N (w.heap.size + 3) (w.heap.size + 1) (w.heap.size + 1 + 1) w W0 v0 ((List.replicate nn false).set s true) (List.replicate nn stZero) [(s : Int)]) :=
    Lib.hid ⟨ob.mod m5 (fun h => h), oi.mod m5 (fun h => h), p4, hb3.trans (m5.below hb3.size (fun _ _ h => h.elim)), by rw [← hs3]; exact m5.size, by omega, by omega, by omega, by omega, by omega⟩
  have k04 : W0.cell? ⟨w.heap.size, 0, none⟩ = some (.int .i64 nn) := (m5.cell (p := ⟨w.heap.size, 0, none⟩) (by rw [hs3]; simp) (fun h => h)).trans k03
  have k14 : W0.cell? ⟨w.heap.size, 1, none⟩ = some (.slice A N c) := (m5.cell (p := ⟨w.heap.size, 1, none⟩) (by rw [hs3]; simp) (fun h => h)).trans k13
  have Hsz2 := Lib.hid hsz2
  clear ob oi hb3 m5 p4 p5 o1 o2 b2 k03 k13 k0 k1 hs3
  go_wp2
  go_loopg [10, 11] nn (fun g1 v10 v11 wr => ∃ (k : Nat) (seen : List Bool) (st : List GStep) (xs : List Int), v11 = .int .i64 k ∧ k ≤ xs.length ∧ xs.length ≤ nn ∧ nn - k ≤ g1 ∧ Hid (RSt nn N (w.heap.size + 3) (w.heap.size + 1) (w.heap.size + 1 + 1) w wr v10 seen st xs) ∧ Hid (Bfs es fl nn N s nn seen st xs) ∧ Hid (DoneL es fl N seen xs k) ∧ wr.cell? ⟨w.heap.size, 0, none⟩ = some (.int .i64 nn) ∧ wr.cell? ⟨w.heap.size, 1, none⟩ = some (.slice A N c))
  case atStart => exact ⟨0, _, _, _, by go_num, by simp, by simp; omega, by omega, RS, Lib.hid (bfs_start hs), Lib.hid (fun j u hj => absurd hj (Nat.not_lt_zero _)), k04, k14⟩
  case round =>
    obtain ⟨k, seen, st, xs, rfl, hk, hkn, hg1, HS, HB, HD, c0, c1⟩ := hrel
    clear RS k04 k14
    obtain ⟨a10, cc10, rfl, hrd⟩ := HS.out.ls.rd encI_len
    by_cases hlt : k < xs.length
    · have hltz : (k : Int) < (xs.length : Int) := by omega
      obtain ⟨b, off, u', rfl, hbl, hx, hcc⟩ := hrd.at_ (k := k) hlt
      have hc0 := hcc 0 _ rfl
      rw [Nat.mul_one, Nat.add_zero] at hc0
      obtain ⟨u, rfl, hu, hus⟩ := HB.out.elems u' (List.mem_of_getElem? hx)
      have HX := Lib.hid hx
      clear hcc hbl hx hrd
      go_wp2
      go_loopg [10, 13] N (fun g2 v10 v13 wr => ∃ (i : Nat) (seen : List Bool) (st : List GStep) (xs : List Int), v13 = .int .i64 i ∧ i ≤ N ∧ N - i ≤ g2 ∧ k < xs.length ∧ xs.length ≤ nn ∧ Hid (xs[k]? = some (u : Int)) ∧ Hid (RSt nn N (w.heap.size + 3) (w.heap.size + 1) (w.heap.size + 1 + 1) w wr v10 seen st xs) ∧ Hid (Bfs es fl nn N s nn seen st xs) ∧ Hid (DoneL es fl N seen xs k) ∧ Hid (DoneTo es fl seen u i) ∧ Hid (bAt seen u = true) ∧ wr.cell? ⟨w.heap.size, 0, none⟩ = some (.int .i64 nn) ∧ wr.cell? ⟨w.heap.size, 1, none⟩ = some (.slice A N c))
      case atStart => exact ⟨0, seen, st, xs, by go_num, by omega, by omega, hlt, hkn, HX, HS, HB, HD, Lib.hid (fun j hj => absurd hj (Nat.not_lt_zero _)), Lib.hid hus, c0, c1⟩
      case round =>
        clear HS HB HD HX c0 c1 hc0 hlt hkn hk hus
        obtain ⟨i, seen, st, xs, rfl, hi, hg2, hlt, hkn, HX, HS, HB, HD, HT, HU, c0, c1⟩ := hrel
        by_cases hiN : i < N
        · have hiz : (i : Int) < (N : Int) := by omega
          obtain ⟨a10, cc10, rfl, _⟩ := HS.out.ls.rd encI_len
          obtain ⟨be, oe, e, hA, hble, he, g0, g1, g2⟩ := rdE_at (hR.keep HS.out.bel) (k := i) (by rw [HN.out]; exact hiN)
          obtain ⟨bf, of, hA2, hblf, gf0⟩ := hR2.int (k := i) (by rw [HN2.out]; exact hiN)
          have gf : wr.cell? ⟨bf, of + i, none⟩ = some (.int .i64 (fAt fl i)) := (HS.out.bel.cell (p := ⟨bf, of + i, none⟩) hblf).trans gf0
          have ee : eAt es i = e := by unfold eAt; rw [he]; rfl
          have ok := okG_at HE.out (i := i) (by rw [HN.out]; exact hiN)
          rw [ee] at ok
          obtain ⟨ef, et, ec⟩ := e
          obtain ⟨ok1, ok2, ok3, ok4, ok5, ok6⟩ := ok
          dsimp only at ok1 ok2 ok3 ok4 ok5 ok6 g0 g1 g2
          obtain ⟨a, rfl⟩ : ∃ a : Nat, ef = a := ⟨ef.toNat, by omega⟩
          obtain ⟨d, rfl⟩ : ∃ d : Nat, et = d := ⟨et.toNat, by omega⟩
          obtain ⟨f, hf⟩ : ∃ f, f = fAt fl i := ⟨_, rfl⟩
          rw [← hf] at gf
          have had : a < nn := by omega
          have hdd : d < nn := by omega
          subst hA hA2
          have IS0 : Hid (InSt nn N s k u i wr.heap.size es fl w (wr.alloc (.cells #[.int .i64 a, .int .i64 d, .int .i64 ec] 70)) (.slice a10 xs.length cc10) seen st xs) :=
            Lib.hid ⟨HS.out.alloc _, HB.out, hlt, hkn, HX.out, HD.out, HT.out, HU.out, fun h => by have := (World.ownsRow.lt HS.out.ls _ h).2; omega, by simp, HS.out.hb⟩
          have RC0 : Hid (RCell nn N c wr.heap.size bf (of + i) (some ⟨be, oe, none⟩) a d ec f w (wr.alloc (.cells #[.int .i64 a, .int .i64 d, .int .i64 ec] 70))) := by
            have lw : w.heap.size < wr.heap.size := World.block_lt_of_cell? wr _ c0
            have lf : bf < wr.heap.size := Nat.lt_of_lt_of_le hblf HS.out.bel.size
            refine ⟨?_, ?_, by go_simp, by go_simp, by go_simp, ?_⟩
            · rw [World.cell?_alloc_lt wr _ ⟨w.heap.size, 0, none⟩ lw]; exact c0
            · rw [World.cell?_alloc_lt wr _ ⟨w.heap.size, 1, none⟩ lw]; exact c1
            · rw [World.cell?_alloc_lt wr _ ⟨bf, of + i, none⟩ lf]; exact gf
          have Hee := Lib.hid ee
          have Hf := Lib.hid hf
          clear HS HB HX HD HT HU gf gf0 he ee hf hlt hkn ok1 ok3 hble
          go_upto_region 13 with (fail)
          refine wp_normal (fun K hK => ?_)
          have HK := Lib.hid hK
          clear hK
          go_wp2
          refine HK.out _ _ ?_
          clear HK K
          go_step
          go_step
          refine wp_world (fun W => InSt nn N s k u i wr.heap.size es fl w W (.slice a10 xs.length cc10) seen st xs ∧ RCell nn N c wr.heap.size bf (of + i) (some ⟨be, oe, none⟩) a d ec f w W) ⟨IS0.out, RC0.out⟩ ?_
          rintro W ⟨IS, RC⟩
          clear IS0 RC0 c0 c1 g0 g1 g2
          go_step
          go_cut [10] (fun v W' => ∃ seen' st' xs', Hid (InSt nn N s k u i wr.heap.size es fl w W' v seen' st' xs') ∧ Hid (RCell nn N c wr.heap.size bf (of + i) (some ⟨be, oe, none⟩) a d ec f w W') ∧ Hid (a = u → f < ec → bAt seen' d = true))
          case first => as_aux_lemma =>
            obtain ⟨r1, r2, r3, r4, r5, r6⟩ := id RC
            have sd := IS.r.sn.cell hdd
            have hdz : (d : Int) < (nn : Int) := by omega
            by_cases h1 : a = u
            · by_cases h2 : f < ec
              · cases h3 : bAt seen d
                · go_step
                  refine wp_normal (fun K hK => ?_)
                  refine reachA W (w.heap.size + 1) wr.heap.size bf of nn N i c2 a d u ec f _ K h1 h2 h3 hiz hdz r3 r4 r5 r6 sd _ _ _ _ _ _ _ _ _ _ _ _ _ _ _ _ _ _ _ _ _ _ _ _ _ _ _ _ _ _ _ _ _ _ _ _ _ _ _ _ _ _ _ _ _ _ _ _ _ _ _ _ _ _ _ _ _ _ _ _ _ _ _ _ _ _ _ _ _ _ _ _ _ _ _ _ _ _ _ _ _ _ _ _ _ _ _ _ _ _ _ _ _ _ _ _ _ _ _ _ _ _ _ _ _ _ _ _ _ _ _ _ _ _ _ _ _ _ _ ?_
                  refine Lib.hid ?_
                  intro nq v50 v51 v52 v53 v54 v55 v56 v57 v58 v59 v60 v61 v62 v63 v64 v65 v66 v67 v68 v69
                  refine hK _ _ ?_
                  clear hK K
                  have IS' := IS.drewN nq
                  have RC' := RC.drewN nq
                  clear IS RC r1 r2 r3 r4 r5 r6 sd
                  generalize W.drewN nq = W' at IS' RC' ⊢
                  obtain ⟨p1, v', W3, p2, p3, p4, p5, p6, p7, p8, p9, ⟨z, p10⟩, p11, p12, p13⟩ := IS'.mark RC' hblf (by omega) ⟨i, (eAt es i).to, (eAt es i).cap - fAt fl i, true⟩ d i hdd h3 hu (step_fwd hiN (by rw [Hee.out, h1]) (by rw [Hee.out, ← Hf.out]; exact h2)) (by dsimp only; rw [Hee.out]) rfl
                  obtain ⟨r1, r2, r3, r4, r5, r6⟩ := RC'
                  obtain ⟨t1, t2, t3, t4, t5, t6⟩ := p12
                  obtain ⟨s1, s2, s3, s4, s5, s6⟩ := p13
                  have Q := Lib.hid (And.intro p4 (And.intro p5 p6))
                  clear IS' p4 p5 p6 p7
                  go_step
                  go_wp2
                  go_meet
                  exact ⟨_, _, _, Q.out.1, Q.out.2.1, Lib.hid (fun _ _ => Q.out.2.2.out)⟩
                · go_step
                  refine wp_normal (fun K hK => ?_)
                  refine reachB W (w.heap.size + 1) wr.heap.size bf of nn N i c2 a d u ec f _ K h1 h2 h3 hiz hdz r3 r4 r5 r6 sd _ _ _ _ _ _ _ _ _ _ _ _ _ _ _ _ _ _ _ _ _ _ _ _ _ _ _ _ _ _ _ _ _ _ _ _ _ _ _ _ _ _ _ _ _ _ _ _ _ _ _ _ _ _ _ _ _ _ _ _ _ _ _ _ _ _ _ _ _ _ _ _ _ _ _ _ _ _ _ _ _ _ _ _ _ _ _ _ _ _ _ _ _ _ _ _ _ _ _ _ _ _ _ _ _ _ _ _ _ _ _ _ _ _ _ _ _ _ _ ?_
                  refine Lib.hid ?_
                  intro nq v50 v51 v52 v53 v54 v55 v56 v57 v58 v59 v60 v61 v62 v63 v64 v65 v66 v67 v68 v69
                  refine hK _ _ ?_
                  clear hK K
                  have IS' := IS.drewN nq
                  have RC' := RC.drewN nq
                  clear IS RC r1 r2 r3 r4 r5 r6 sd
                  generalize W.drewN nq = W' at IS' RC' ⊢
                  have Q := Lib.hid (And.intro IS' (And.intro RC' h3))
                  clear IS' RC'
                  go_step
                  go_wp2
                  go_meet
                  exact ⟨_, _, _, Lib.hid Q.out.1, Lib.hid Q.out.2.1, Lib.hid (fun _ _ => Q.out.2.2)⟩
              · have h2' : ec ≤ f := by omega
                go_step
                refine wp_normal (fun K hK => ?_)
                refine reachC W (w.heap.size + 1) wr.heap.size bf of nn N i c2 a d u ec f _ K h1 h2' hiz hdz r3 r4 r5 r6 sd _ _ _ _ _ _ _ _ _ _ _ _ _ _ _ _ _ _ _ _ _ _ _ _ _ _ _ _ _ _ _ _ _ _ _ _ _ _ _ _ _ _ _ _ _ _ _ _ _ _ _ _ _ _ _ _ _ _ _ _ _ _ _ _ _ _ _ _ _ _ _ _ _ _ _ _ _ _ _ _ _ _ _ _ _ _ _ _ _ _ _ _ _ _ _ _ _ _ _ _ _ _ _ _ _ _ _ _ _ _ _ _ _ _ _ _ _ _ _ ?_
                refine Lib.hid ?_
                intro nq v50 v51 v52 v53 v54 v55 v56 v57 v58 v59 v60 v61 v62 v63 v64 v65 v66 v67 v68 v69
                refine hK _ _ ?_
                clear hK K
                have IS' := IS.drewN nq
                have RC' := RC.drewN nq
                clear IS RC r1 r2 r3 r4 r5 r6 sd
                generalize W.drewN nq = W' at IS' RC' ⊢
                have Q := Lib.hid (And.intro IS' (And.intro RC' h2))
                clear IS' RC'
                go_step
                go_wp2
                go_meet
                exact ⟨_, _, _, Lib.hid Q.out.1, Lib.hid Q.out.2.1, Lib.hid (fun _ h => by have := Q.out.2.2; omega)⟩
            · go_step
              refine wp_normal (fun K hK => ?_)
              refine reachD W (w.heap.size + 1) wr.heap.size bf of nn N i c2 a d u ec f _ K h1 hiz hdz r3 r4 r5 r6 sd _ _ _ _ _ _ _ _ _ _ _ _ _ _ _ _ _ _ _ _ _ _ _ _ _ _ _ _ _ _ _ _ _ _ _ _ _ _ _ _ _ _ _ _ _ _ _ _ _ _ _ _ _ _ _ _ _ _ _ _ _ _ _ _ _ _ _ _ _ _ _ _ _ _ _ _ _ _ _ _ _ _ _ _ _ _ _ _ _ _ _ _ _ _ _ _ _ _ _ _ _ _ _ _ _ _ _ _ _ _ _ _ _ _ _ _ _ _ _ ?_
              refine Lib.hid ?_
              intro nq v50 v51 v52 v53 v54 v55 v56 v57 v58 v59 v60 v61 v62 v63 v64 v65 v66 v67 v68 v69
              refine hK _ _ ?_
              clear hK K
              have IS' := IS.drewN nq
              have RC' := RC.drewN nq
              clear IS RC r1 r2 r3 r4 r5 r6 sd
              generalize W.drewN nq = W' at IS' RC' ⊢
              have Q := Lib.hid (And.intro IS' (And.intro RC' h1))
              clear IS' RC'
              go_step
              go_wp2
              go_meet
              exact ⟨_, _, _, Lib.hid Q.out.1, Lib.hid Q.out.2.1, Lib.hid (fun h => absurd h Q.out.2.2)⟩
          case rest =>
            clear IS RC
            obtain ⟨seen', st', xs', IS, RC, HF⟩ := hcut
            obtain ⟨r1, r2, r3, r4, r5, r6⟩ := id RC.out
            have sa := IS.out.r.sn.cell had
            have haz : (a : Int) < (nn : Int) := by omega
            have fin : ∀ (W3 : World) (v : Value) (seen3 : List Bool) (st3 : List GStep) (xs3 : List Int), InSt nn N s k u i wr.heap.size es fl w W3 v seen3 st3 xs3 → RCell nn N c wr.heap.size bf (of + i) (some ⟨be, oe, none⟩) a d ec f w W3 → (a = u → f < ec → bAt seen3 d = true) → (d = u → 0 < f → bAt seen3 a = true) →
                ∃ (i' : Nat) (seen : List Bool) (st : List GStep) (xs : List Int), (Value.int .i64 ((i : Int) + 1)) = .int .i64 i' ∧ i' ≤ N ∧ N - i' ≤ N - (i + 1) ∧ k < xs.length ∧ xs.length ≤ nn ∧ Hid (xs[k]? = some (u : Int)) ∧ Hid (RSt nn N (w.heap.size + 3) (w.heap.size + 1) (w.heap.size + 1 + 1) w W3 v seen st xs) ∧ Hid (Bfs es fl nn N s nn seen st xs) ∧ Hid (DoneL es fl N seen xs k) ∧ Hid (DoneTo es fl seen u i') ∧ Hid (bAt seen u = true) ∧ W3.cell? ⟨w.heap.size, 0, none⟩ = some (.int .i64 nn) ∧ W3.cell? ⟨w.heap.size, 1, none⟩ = some (.slice (some ⟨be, oe, none⟩) N c) := by
              intro W3 v seen3 st3 xs3 I R f1 f2
              refine ⟨i + 1, seen3, st3, xs3, natcast_succ i, by omega, by omega, I.k1, I.k2, Lib.hid I.at_, Lib.hid I.r, Lib.hid I.b, Lib.hid I.dl, Lib.hid (I.dt.succ ?_ ?_), Lib.hid I.us, R.1, R.2.1⟩
              · rw [Hee.out, ← Hf.out]
                intro x1 x2
                exact f1 (Int.ofNat.inj x1) x2
              · rw [Hee.out, ← Hf.out]
                intro x1 x2
                exact f2 (Int.ofNat.inj x1) x2
            have FIN := Lib.hid fin
            clear fin
            by_cases h1 : d = u
            · have hb1 : ((d : Int) == (u : Int)) = true := by rw [h1]; simp
              by_cases h2 : 0 < f
              · cases h3 : bAt seen' a
                · rw [h3] at sa
                  have hau : a ≠ u := by
                    rintro rfl
                    have := IS.out.us
                    rw [h3] at this
                    cases this
                  obtain ⟨p1, v', W3, p2, p3, p4, p5, p6, p7, p8, p9, ⟨z, p10⟩, p11, p12, p13⟩ := IS.out.mark RC.out hblf (by omega) ⟨i, (eAt es i).frm, fAt fl i, false⟩ a ((i : Int) + (N : Int)) had h3 hu (step_bwd hiN (by rw [Hee.out]; dsimp only; omega) (by rw [Hee.out, h1]) (by rw [← Hf.out]; exact h2)) (by dsimp only; rw [Hee.out]) rfl
                  obtain ⟨t1, t2, t3, t4, t5, t6⟩ := p12
                  obtain ⟨s1, s2, s3, s4, s5, s6⟩ := p13
                  have REL := Lib.hid (FIN.out W3 v' _ _ _ p4.out p5.out (fun x y => p7.out _ (HF.out x y)) (fun _ _ => p6.out))
                  clear IS RC HF p4 p5 p6 p7 FIN
                  go_wp2
                  go_roundg (N - (i + 1))
                  case measure => omega
                  case rel => exact REL.out
                · rw [h3] at sa
                  have REL := Lib.hid (FIN.out _ _ _ _ _ IS.out RC.out HF.out (fun _ _ => h3))
                  clear IS RC HF FIN
                  go_wp2
                  go_roundg (N - (i + 1))
                  case measure => omega
                  case rel => exact REL.out
              · have h2' : ¬ 0 < f := h2
                have REL := Lib.hid (FIN.out _ _ _ _ _ IS.out RC.out HF.out (fun _ h => absurd h h2))
                clear IS RC HF FIN
                go_wp2
                go_roundg (N - (i + 1))
                case measure => omega
                case rel => exact REL.out
            · have hb1 : ((d : Int) == (u : Int)) = false := by rw [beq_eq_false_iff_ne]; omega
              have REL := Lib.hid (FIN.out _ _ _ _ _ IS.out RC.out HF.out (fun h => absurd h h1))
              clear IS RC HF FIN
              go_wp2
              go_roundg (N - (i + 1))
              case measure => omega
              case rel => exact REL.out
        · have hiz : ¬ (i : Int) < (N : Int) := by omega
          have hin : i = N := by omega
          subst hin
          have HD2 : Hid (DoneL es fl i seen xs (k + 1)) := Lib.hid (fun j v hj hx => by
            by_cases e : j = k
            · subst e
              have := HX.out.symm.trans hx
              have : u = v := Int.ofNat.inj (Option.some.inj this)
              subst this
              exact HT.out
            · exact HD.out j v (by omega) hx)
          clear HD HT
          go_wp2
          go_roundg (nn - (k + 1))
          case measure => omega
          case rel => exact ⟨k + 1, seen, st, xs, by go_num, by omega, hkn, by omega, HS, HB, HD2, c0, c1⟩
    · have hltz : ¬ (k : Int) < (xs.length : Int) := by omega
      have hdone := reach_end HB.out HD.out (by omega)
      obtain ⟨rk, _, ht⟩ := HB.out.tree
      have PP : Hid (ReachPost w nn N s es fl (.returned (.tuple #[.slice (some ⟨w.heap.size + 1, 0, none⟩) nn nn, .slice (some ⟨w.heap.size + 1 + 1, 0, none⟩) nn nn])) wr) := Lib.hid ⟨_, _, seen, st, rfl, HS.out.sn, HS.out.by_, HS.out.bel, by omega, by omega, by omega, HB.out.lenS, HB.out.lenB, HB.out.src, ⟨rk, ht⟩, hdone⟩
      clear hrd HS HB HD hdone ht
      go_wp2
      go_ret2
      exact PP.out
end Go.Proofs.Ytgfcnkfmgpakkaa
/-
The drawn regions of the reference's Most.
-/
namespace Go.Proofs.Ytgfcnkfmgpakkaa
open Go.RowKit
set_option linter.unusedVariables false
noncomputable def rmReg13 : Code := ((Try.f87.body.bind (findRegion 13)).getD .skip)
set_option maxHeartbeats 4000000 in
set_option maxRecDepth 100000 in
theorem rm13 (W : World) (bg gF gb nn N c v i be oe x : Nat) (r f cap : Int) (K : Act → World → Prop) (hv : (v : Int) < (nn : Int)) (hi : (i : Int) < (N : Int)) (hN : N ≤ 512) (hsub : (i : Int) + (N : Int) - (N : Int) = (i : Int)) (f0 : 0 ≤ f) (f1 : f ≤ 1000000) (p0 : 0 ≤ cap) (p1 : cap ≤ 1000000) (r0 : 0 ≤ r) (r1 : r ≤ 1000000)
  (c1 : W.cell? ⟨bg, 1, none⟩ = some (.slice (some ⟨be, oe, none⟩) N c)) (cb : W.cell? ⟨gb, v, none⟩ = some (.int .i64 (i : Int))) (ce : W.cell? ⟨be, oe + i * 3 + 2, none⟩ = some (.int .i64 cap)) (cf : W.cell? ⟨gF, i, none⟩ = some (.int .i64 f)) (cz : W.frozen? ⟨gF, i, none⟩ = false)
  (u0 u1 u2 u4 u5 u6 u7 u8 u9 u10 u13 u17 u18 u19 u20 u21 u22 u23 u24 u25 u26 u27 u28 u29 u30 u31 u32 u33 u34 u35 u36 u37 u38 u39 u40 u41 u42 u43 u44 u45 u46 u47 u48 u49 u50 u51 u52 u53 u54 u55 u56 u57 u58 u59 u60 u61 u62 u63 u64 u65 u66 u67 u68 u69 u70 u71 u72 u73 u74 u75 u76 u77 u78 u79 u80 u81 u82 u83 u84 u85 u86 u87 u88 u89 u90 u91 u92 u93 u94 u95 u96 u97 u98 u99 u100 u101 u102 u103 u104 u105 u106 u107 u108 u109 u110 u111 u112 u113 u114 u115 u116 u117 u118 u119 u120 u121 u122 u123 u124 u125 u126 u127 u128 u129 u130 u131 u132 u133 u134 u135 u136 u137 u138 u139 u140 u141 u142 u143 u144 u145 u146 u147 u148 u149 u150 u151 u152 u153 u154 u155 u156 u157 u158 u159 u160 u161 u162 u163 u164 u165 u166 u167 u168 u169 u170 u171 : Value)
  (HK : Hid (∀ (nq : Nat) (v58 v59 v60 v61 v62 v63 v64 v65 v66 v67 v68 v69 v70 v71 v72 v73 v74 v75 v76 : Value), K ⟨List.toArray (u0 :: u1 :: u2 :: (.pointer (some ⟨bg, 0, none⟩)) :: u4 :: u5 :: u6 :: u7 :: u8 :: u9 :: u10 :: (.slice (some ⟨gF, 0, none⟩) N N) :: (.int .i64 N) :: u13 :: (.slice (some ⟨gb, 0, none⟩) nn nn) :: (.int .i64 (if cap - f < r then cap - f else r)) :: (.int .i64 v) :: u17 :: u18 :: u19 :: u20 :: u21 :: u22 :: u23 :: u24 :: u25 :: u26 :: u27 :: u28 :: u29 :: u30 :: u31 :: u32 :: u33 :: u34 :: u35 :: u36 :: u37 :: u38 :: u39 :: u40 :: u41 :: u42 :: u43 :: u44 :: u45 :: u46 :: u47 :: u48 :: u49 :: u50 :: u51 :: u52 :: u53 :: u54 :: u55 :: u56 :: u57 :: v58 :: v59 :: v60 :: v61 :: v62 :: v63 :: v64 :: v65 :: v66 :: v67 :: v68 :: v69 :: v70 :: v71 :: v72 :: v73 :: v74 :: v75 :: v76 :: u77 :: u78 :: u79 :: u80 :: u81 :: u82 :: u83 :: u84 :: u85 :: u86 :: u87 :: u88 :: u89 :: u90 :: u91 :: u92 :: u93 :: u94 :: u95 :: u96 :: u97 :: u98 :: u99 :: u100 :: u101 :: u102 :: u103 :: u104 :: u105 :: u106 :: u107 :: u108 :: u109 :: u110 :: u111 :: u112 :: u113 :: u114 :: u115 :: u116 :: u117 :: u118 :: u119 :: u120 :: u121 :: u122 :: u123 :: u124 :: u125 :: u126 :: u127 :: u128 :: u129 :: u130 :: u131 :: u132 :: u133 :: u134 :: u135 :: u136 :: u137 :: u138 :: u139 :: u140 :: u141 :: u142 :: u143 :: u144 :: u145 :: u146 :: u147 :: u148 :: u149 :: u150 :: u151 :: u152 :: u153 :: u154 :: u155 :: u156 :: u157 :: u158 :: u159 :: u160 :: u161 :: u162 :: u163 :: u164 :: u165 :: u166 :: u167 :: u168 :: u169 :: u170 :: u171 :: []), []⟩ (W.drewN nq))) :
  Code.wp Try.prog rmReg13 (Exit.then K fun _ _ _ => False) ⟨List.toArray (u0 :: u1 :: u2 :: (.pointer (some ⟨bg, 0, none⟩)) :: u4 :: u5 :: u6 :: u7 :: u8 :: u9 :: u10 :: (.slice (some ⟨gF, 0, none⟩) N N) :: (.int .i64 N) :: u13 :: (.slice (some ⟨gb, 0, none⟩) nn nn) :: (.int .i64 r) :: (.int .i64 v) :: u17 :: u18 :: u19 :: u20 :: u21 :: u22 :: u23 :: u24 :: u25 :: u26 :: u27 :: u28 :: u29 :: u30 :: u31 :: u32 :: u33 :: u34 :: u35 :: u36 :: u37 :: u38 :: u39 :: u40 :: u41 :: u42 :: u43 :: u44 :: u45 :: u46 :: u47 :: u48 :: u49 :: u50 :: u51 :: u52 :: u53 :: u54 :: u55 :: u56 :: u57 :: u58 :: u59 :: u60 :: u61 :: u62 :: u63 :: u64 :: u65 :: u66 :: u67 :: u68 :: u69 :: u70 :: u71 :: u72 :: u73 :: u74 :: u75 :: u76 :: u77 :: u78 :: u79 :: u80 :: u81 :: u82 :: u83 :: u84 :: u85 :: u86 :: u87 :: u88 :: u89 :: u90 :: u91 :: u92 :: u93 :: u94 :: u95 :: u96 :: u97 :: u98 :: u99 :: u100 :: u101 :: u102 :: u103 :: u104 :: u105 :: u106 :: u107 :: u108 :: u109 :: u110 :: u111 :: u112 :: u113 :: u114 :: u115 :: u116 :: u117 :: u118 :: u119 :: u120 :: u121 :: u122 :: u123 :: u124 :: u125 :: u126 :: u127 :: u128 :: u129 :: u130 :: u131 :: u132 :: u133 :: u134 :: u135 :: u136 :: u137 :: u138 :: u139 :: u140 :: u141 :: u142 :: u143 :: u144 :: u145 :: u146 :: u147 :: u148 :: u149 :: u150 :: u151 :: u152 :: u153 :: u154 :: u155 :: u156 :: u157 :: u158 :: u159 :: u160 :: u161 :: u162 :: u163 :: u164 :: u165 :: u166 :: u167 :: u168 :: u169 :: u170 :: u171 :: []), []⟩ W := by
  skip
  conv => arg 2; whnf
  go_quiet (fail)
  exact HK.out _ _ _ _ _ _ _ _ _ _ _ _ _ _ _ _ _ _ _ _
noncomputable def rmReg14 : Code := ((Try.f87.body.bind (findRegion 14)).getD .skip)
set_option maxHeartbeats 4000000 in
set_option maxRecDepth 100000 in
theorem rm14 (W : World) (bg gF gb nn N c v i be oe x : Nat) (r f cap : Int) (K : Act → World → Prop) (hv : (v : Int) < (nn : Int)) (hi : (i : Int) < (N : Int)) (hN : N ≤ 512) (hsub : (i : Int) + (N : Int) - (N : Int) = (i : Int)) (f0 : 0 ≤ f) (f1 : f ≤ 1000000) (p0 : 0 ≤ cap) (p1 : cap ≤ 1000000) (r0 : 0 ≤ r) (r1 : r ≤ 1000000)
  (c1 : W.cell? ⟨bg, 1, none⟩ = some (.slice (some ⟨be, oe, none⟩) N c)) (cb : W.cell? ⟨gb, v, none⟩ = some (.int .i64 (i : Int))) (ce : W.cell? ⟨be, oe + i * 3 + 0, none⟩ = some (.int .i64 x)) (cf : W.cell? ⟨gF, i, none⟩ = some (.int .i64 f)) (cz : W.frozen? ⟨gF, i, none⟩ = false)
  (u0 u1 u2 u4 u5 u6 u7 u8 u9 u10 u13 u17 u18 u19 u20 u21 u22 u23 u24 u25 u26 u27 u28 u29 u30 u31 u32 u33 u34 u35 u36 u37 u38 u39 u40 u41 u42 u43 u44 u45 u46 u47 u48 u49 u50 u51 u52 u53 u54 u55 u56 u57 u58 u59 u60 u61 u62 u63 u64 u65 u66 u67 u68 u69 u70 u71 u72 u73 u74 u75 u76 u77 u78 u79 u80 u81 u82 u83 u84 u85 u86 u87 u88 u89 u90 u91 u92 u93 u94 u95 u96 u97 u98 u99 u100 u101 u102 u103 u104 u105 u106 u107 u108 u109 u110 u111 u112 u113 u114 u115 u116 u117 u118 u119 u120 u121 u122 u123 u124 u125 u126 u127 u128 u129 u130 u131 u132 u133 u134 u135 u136 u137 u138 u139 u140 u141 u142 u143 u144 u145 u146 u147 u148 u149 u150 u151 u152 u153 u154 u155 u156 u157 u158 u159 u160 u161 u162 u163 u164 u165 u166 u167 u168 u169 u170 u171 : Value)
  (HK : Hid (∀ (nq : Nat) (v77 v78 v79 v80 v81 v82 v83 v84 v85 : Value), K ⟨List.toArray (u0 :: u1 :: u2 :: (.pointer (some ⟨bg, 0, none⟩)) :: u4 :: u5 :: u6 :: u7 :: u8 :: u9 :: u10 :: (.slice (some ⟨gF, 0, none⟩) N N) :: (.int .i64 N) :: u13 :: (.slice (some ⟨gb, 0, none⟩) nn nn) :: (.int .i64 r) :: (.int .i64 x) :: u17 :: u18 :: u19 :: u20 :: u21 :: u22 :: u23 :: u24 :: u25 :: u26 :: u27 :: u28 :: u29 :: u30 :: u31 :: u32 :: u33 :: u34 :: u35 :: u36 :: u37 :: u38 :: u39 :: u40 :: u41 :: u42 :: u43 :: u44 :: u45 :: u46 :: u47 :: u48 :: u49 :: u50 :: u51 :: u52 :: u53 :: u54 :: u55 :: u56 :: u57 :: u58 :: u59 :: u60 :: u61 :: u62 :: u63 :: u64 :: u65 :: u66 :: u67 :: u68 :: u69 :: u70 :: u71 :: u72 :: u73 :: u74 :: u75 :: u76 :: v77 :: v78 :: v79 :: v80 :: v81 :: v82 :: v83 :: v84 :: v85 :: u86 :: u87 :: u88 :: u89 :: u90 :: u91 :: u92 :: u93 :: u94 :: u95 :: u96 :: u97 :: u98 :: u99 :: u100 :: u101 :: u102 :: u103 :: u104 :: u105 :: u106 :: u107 :: u108 :: u109 :: u110 :: u111 :: u112 :: u113 :: u114 :: u115 :: u116 :: u117 :: u118 :: u119 :: u120 :: u121 :: u122 :: u123 :: u124 :: u125 :: u126 :: u127 :: u128 :: u129 :: u130 :: u131 :: u132 :: u133 :: u134 :: u135 :: u136 :: u137 :: u138 :: u139 :: u140 :: u141 :: u142 :: u143 :: u144 :: u145 :: u146 :: u147 :: u148 :: u149 :: u150 :: u151 :: u152 :: u153 :: u154 :: u155 :: u156 :: u157 :: u158 :: u159 :: u160 :: u161 :: u162 :: u163 :: u164 :: u165 :: u166 :: u167 :: u168 :: u169 :: u170 :: u171 :: []), []⟩ (W.drewN nq))) :
  Code.wp Try.prog rmReg14 (Exit.then K fun _ _ _ => False) ⟨List.toArray (u0 :: u1 :: u2 :: (.pointer (some ⟨bg, 0, none⟩)) :: u4 :: u5 :: u6 :: u7 :: u8 :: u9 :: u10 :: (.slice (some ⟨gF, 0, none⟩) N N) :: (.int .i64 N) :: u13 :: (.slice (some ⟨gb, 0, none⟩) nn nn) :: (.int .i64 r) :: (.int .i64 v) :: u17 :: u18 :: u19 :: u20 :: u21 :: u22 :: u23 :: u24 :: u25 :: u26 :: u27 :: u28 :: u29 :: u30 :: u31 :: u32 :: u33 :: u34 :: u35 :: u36 :: u37 :: u38 :: u39 :: u40 :: u41 :: u42 :: u43 :: u44 :: u45 :: u46 :: u47 :: u48 :: u49 :: u50 :: u51 :: u52 :: u53 :: u54 :: u55 :: u56 :: u57 :: u58 :: u59 :: u60 :: u61 :: u62 :: u63 :: u64 :: u65 :: u66 :: u67 :: u68 :: u69 :: u70 :: u71 :: u72 :: u73 :: u74 :: u75 :: u76 :: u77 :: u78 :: u79 :: u80 :: u81 :: u82 :: u83 :: u84 :: u85 :: u86 :: u87 :: u88 :: u89 :: u90 :: u91 :: u92 :: u93 :: u94 :: u95 :: u96 :: u97 :: u98 :: u99 :: u100 :: u101 :: u102 :: u103 :: u104 :: u105 :: u106 :: u107 :: u108 :: u109 :: u110 :: u111 :: u112 :: u113 :: u114 :: u115 :: u116 :: u117 :: u118 :: u119 :: u120 :: u121 :: u122 :: u123 :: u124 :: u125 :: u126 :: u127 :: u128 :: u129 :: u130 :: u131 :: u132 :: u133 :: u134 :: u135 :: u136 :: u137 :: u138 :: u139 :: u140 :: u141 :: u142 :: u143 :: u144 :: u145 :: u146 :: u147 :: u148 :: u149 :: u150 :: u151 :: u152 :: u153 :: u154 :: u155 :: u156 :: u157 :: u158 :: u159 :: u160 :: u161 :: u162 :: u163 :: u164 :: u165 :: u166 :: u167 :: u168 :: u169 :: u170 :: u171 :: []), []⟩ W := by
  try rw [Nat.add_zero] at ce
  conv => arg 2; whnf
  go_quiet (fail)
  exact HK.out _ _ _ _ _ _ _ _ _ _
noncomputable def rmReg16 : Code := ((Try.f87.body.bind (findRegion 16)).getD .skip)
set_option maxHeartbeats 4000000 in
set_option maxRecDepth 100000 in
theorem rm16 (W : World) (bg gF gb nn N c v i be oe x : Nat) (r f cap : Int) (K : Act → World → Prop) (hv : (v : Int) < (nn : Int)) (hi : (i : Int) < (N : Int)) (hN : N ≤ 512) (hsub : (i : Int) + (N : Int) - (N : Int) = (i : Int)) (f0 : 0 ≤ f) (f1 : f ≤ 1000000) (p0 : 0 ≤ cap) (p1 : cap ≤ 1000000) (r0 : 0 ≤ r) (r1 : r ≤ 1000000)
  (c1 : W.cell? ⟨bg, 1, none⟩ = some (.slice (some ⟨be, oe, none⟩) N c)) (cb : W.cell? ⟨gb, v, none⟩ = some (.int .i64 ((i : Int) + (N : Int)))) (ce : W.cell? ⟨be, oe + i * 3 + 1, none⟩ = some (.int .i64 x)) (cf : W.cell? ⟨gF, i, none⟩ = some (.int .i64 f)) (cz : W.frozen? ⟨gF, i, none⟩ = false)
  (u0 u1 u2 u4 u5 u6 u7 u8 u9 u10 u13 u17 u18 u19 u20 u21 u22 u23 u24 u25 u26 u27 u28 u29 u30 u31 u32 u33 u34 u35 u36 u37 u38 u39 u40 u41 u42 u43 u44 u45 u46 u47 u48 u49 u50 u51 u52 u53 u54 u55 u56 u57 u58 u59 u60 u61 u62 u63 u64 u65 u66 u67 u68 u69 u70 u71 u72 u73 u74 u75 u76 u77 u78 u79 u80 u81 u82 u83 u84 u85 u86 u87 u88 u89 u90 u91 u92 u93 u94 u95 u96 u97 u98 u99 u100 u101 u102 u103 u104 u105 u106 u107 u108 u109 u110 u111 u112 u113 u114 u115 u116 u117 u118 u119 u120 u121 u122 u123 u124 u125 u126 u127 u128 u129 u130 u131 u132 u133 u134 u135 u136 u137 u138 u139 u140 u141 u142 u143 u144 u145 u146 u147 u148 u149 u150 u151 u152 u153 u154 u155 u156 u157 u158 u159 u160 u161 u162 u163 u164 u165 u166 u167 u168 u169 u170 u171 : Value)
  (HK : Hid (∀ (nq : Nat) (v97 v98 v99 v100 v101 v102 v103 v104 v105 v106 v107 : Value), K ⟨List.toArray (u0 :: u1 :: u2 :: (.pointer (some ⟨bg, 0, none⟩)) :: u4 :: u5 :: u6 :: u7 :: u8 :: u9 :: u10 :: (.slice (some ⟨gF, 0, none⟩) N N) :: (.int .i64 N) :: u13 :: (.slice (some ⟨gb, 0, none⟩) nn nn) :: (.int .i64 r) :: (.int .i64 x) :: u17 :: u18 :: u19 :: u20 :: u21 :: u22 :: u23 :: u24 :: u25 :: u26 :: u27 :: u28 :: u29 :: u30 :: u31 :: u32 :: u33 :: u34 :: u35 :: u36 :: u37 :: u38 :: u39 :: u40 :: u41 :: u42 :: u43 :: u44 :: u45 :: u46 :: u47 :: u48 :: u49 :: u50 :: u51 :: u52 :: u53 :: u54 :: u55 :: u56 :: u57 :: u58 :: u59 :: u60 :: u61 :: u62 :: u63 :: u64 :: u65 :: u66 :: u67 :: u68 :: u69 :: u70 :: u71 :: u72 :: u73 :: u74 :: u75 :: u76 :: u77 :: u78 :: u79 :: u80 :: u81 :: u82 :: u83 :: u84 :: u85 :: u86 :: u87 :: u88 :: u89 :: u90 :: u91 :: u92 :: u93 :: u94 :: u95 :: u96 :: v97 :: v98 :: v99 :: v100 :: v101 :: v102 :: v103 :: v104 :: v105 :: v106 :: v107 :: u108 :: u109 :: u110 :: u111 :: u112 :: u113 :: u114 :: u115 :: u116 :: u117 :: u118 :: u119 :: u120 :: u121 :: u122 :: u123 :: u124 :: u125 :: u126 :: u127 :: u128 :: u129 :: u130 :: u131 :: u132 :: u133 :: u134 :: u135 :: u136 :: u137 :: u138 :: u139 :: u140 :: u141 :: u142 :: u143 :: u144 :: u145 :: u146 :: u147 :: u148 :: u149 :: u150 :: u151 :: u152 :: u153 :: u154 :: u155 :: u156 :: u157 :: u158 :: u159 :: u160 :: u161 :: u162 :: u163 :: u164 :: u165 :: u166 :: u167 :: u168 :: u169 :: u170 :: u171 :: []), []⟩ (W.drewN nq))) :
  Code.wp Try.prog rmReg16 (Exit.then K fun _ _ _ => False) ⟨List.toArray (u0 :: u1 :: u2 :: (.pointer (some ⟨bg, 0, none⟩)) :: u4 :: u5 :: u6 :: u7 :: u8 :: u9 :: u10 :: (.slice (some ⟨gF, 0, none⟩) N N) :: (.int .i64 N) :: u13 :: (.slice (some ⟨gb, 0, none⟩) nn nn) :: (.int .i64 r) :: (.int .i64 v) :: u17 :: u18 :: u19 :: u20 :: u21 :: u22 :: u23 :: u24 :: u25 :: u26 :: u27 :: u28 :: u29 :: u30 :: u31 :: u32 :: u33 :: u34 :: u35 :: u36 :: u37 :: u38 :: u39 :: u40 :: u41 :: u42 :: u43 :: u44 :: u45 :: u46 :: u47 :: u48 :: u49 :: u50 :: u51 :: u52 :: u53 :: u54 :: u55 :: u56 :: u57 :: u58 :: u59 :: u60 :: u61 :: u62 :: u63 :: u64 :: u65 :: u66 :: u67 :: u68 :: u69 :: u70 :: u71 :: u72 :: u73 :: u74 :: u75 :: u76 :: u77 :: u78 :: u79 :: u80 :: u81 :: u82 :: u83 :: u84 :: u85 :: u86 :: u87 :: u88 :: u89 :: u90 :: u91 :: u92 :: u93 :: u94 :: u95 :: u96 :: u97 :: u98 :: u99 :: u100 :: u101 :: u102 :: u103 :: u104 :: u105 :: u106 :: u107 :: u108 :: u109 :: u110 :: u111 :: u112 :: u113 :: u114 :: u115 :: u116 :: u117 :: u118 :: u119 :: u120 :: u121 :: u122 :: u123 :: u124 :: u125 :: u126 :: u127 :: u128 :: u129 :: u130 :: u131 :: u132 :: u133 :: u134 :: u135 :: u136 :: u137 :: u138 :: u139 :: u140 :: u141 :: u142 :: u143 :: u144 :: u145 :: u146 :: u147 :: u148 :: u149 :: u150 :: u151 :: u152 :: u153 :: u154 :: u155 :: u156 :: u157 :: u158 :: u159 :: u160 :: u161 :: u162 :: u163 :: u164 :: u165 :: u166 :: u167 :: u168 :: u169 :: u170 :: u171 :: []), []⟩ W := by
  skip
  conv => arg 2; whnf
  go_quiet (fail)
  exact HK.out _ _ _ _ _ _ _ _ _ _ _ _
noncomputable def rmReg20 : Code := ((Try.f87.body.bind (findRegion 20)).getD .skip)
set_option maxHeartbeats 4000000 in
set_option maxRecDepth 100000 in
theorem rm20 (W : World) (bg gF gb nn N c v i be oe x : Nat) (r f cap : Int) (K : Act → World → Prop) (hv : (v : Int) < (nn : Int)) (hi : (i : Int) < (N : Int)) (hN : N ≤ 512) (hsub : (i : Int) + (N : Int) - (N : Int) = (i : Int)) (f0 : 0 ≤ f) (f1 : f ≤ 1000000) (p0 : 0 ≤ cap) (p1 : cap ≤ 1000000) (r0 : 0 ≤ r) (r1 : r ≤ 1000000)
  (c1 : W.cell? ⟨bg, 1, none⟩ = some (.slice (some ⟨be, oe, none⟩) N c)) (cb : W.cell? ⟨gb, v, none⟩ = some (.int .i64 (i : Int))) (ce : W.cell? ⟨be, oe + i * 3 + 2, none⟩ = some (.int .i64 cap)) (cf : W.cell? ⟨gF, i, none⟩ = some (.int .i64 f)) (cz : W.frozen? ⟨gF, i, none⟩ = false)
  (u0 u1 u2 u4 u5 u6 u7 u8 u9 u10 u13 u17 u18 u19 u20 u21 u22 u23 u24 u25 u26 u27 u28 u29 u30 u31 u32 u33 u34 u35 u36 u37 u38 u39 u40 u41 u42 u43 u44 u45 u46 u47 u48 u49 u50 u51 u52 u53 u54 u55 u56 u57 u58 u59 u60 u61 u62 u63 u64 u65 u66 u67 u68 u69 u70 u71 u72 u73 u74 u75 u76 u77 u78 u79 u80 u81 u82 u83 u84 u85 u86 u87 u88 u89 u90 u91 u92 u93 u94 u95 u96 u97 u98 u99 u100 u101 u102 u103 u104 u105 u106 u107 u108 u109 u110 u111 u112 u113 u114 u115 u116 u117 u118 u119 u120 u121 u122 u123 u124 u125 u126 u127 u128 u129 u130 u131 u132 u133 u134 u135 u136 u137 u138 u139 u140 u141 u142 u143 u144 u145 u146 u147 u148 u149 u150 u151 u152 u153 u154 u155 u156 u157 u158 u159 u160 u161 u162 u163 u164 u165 u166 u167 u168 u169 u170 u171 : Value)
  (HK : Hid (∀ (v118 v119 v120 v121 v122 v123 v124 v125 v126 v127 v128 v129 v130 v131 v132 : Value), K ⟨List.toArray (u0 :: u1 :: u2 :: (.pointer (some ⟨bg, 0, none⟩)) :: u4 :: u5 :: u6 :: u7 :: u8 :: u9 :: u10 :: (.slice (some ⟨gF, 0, none⟩) N N) :: (.int .i64 N) :: u13 :: (.slice (some ⟨gb, 0, none⟩) nn nn) :: (.int .i64 r) :: (.int .i64 v) :: u17 :: u18 :: u19 :: u20 :: u21 :: u22 :: u23 :: u24 :: u25 :: u26 :: u27 :: u28 :: u29 :: u30 :: u31 :: u32 :: u33 :: u34 :: u35 :: u36 :: u37 :: u38 :: u39 :: u40 :: u41 :: u42 :: u43 :: u44 :: u45 :: u46 :: u47 :: u48 :: u49 :: u50 :: u51 :: u52 :: u53 :: u54 :: u55 :: u56 :: u57 :: u58 :: u59 :: u60 :: u61 :: u62 :: u63 :: u64 :: u65 :: u66 :: u67 :: u68 :: u69 :: u70 :: u71 :: u72 :: u73 :: u74 :: u75 :: u76 :: u77 :: u78 :: u79 :: u80 :: u81 :: u82 :: u83 :: u84 :: u85 :: u86 :: u87 :: u88 :: u89 :: u90 :: u91 :: u92 :: u93 :: u94 :: u95 :: u96 :: u97 :: u98 :: u99 :: u100 :: u101 :: u102 :: u103 :: u104 :: u105 :: u106 :: u107 :: u108 :: u109 :: u110 :: u111 :: u112 :: u113 :: u114 :: u115 :: u116 :: u117 :: v118 :: v119 :: v120 :: v121 :: v122 :: v123 :: v124 :: v125 :: v126 :: v127 :: v128 :: v129 :: v130 :: v131 :: v132 :: u133 :: u134 :: u135 :: u136 :: u137 :: u138 :: u139 :: u140 :: u141 :: u142 :: u143 :: u144 :: u145 :: u146 :: u147 :: u148 :: u149 :: u150 :: u151 :: u152 :: u153 :: u154 :: u155 :: u156 :: u157 :: u158 :: u159 :: u160 :: u161 :: u162 :: u163 :: u164 :: u165 :: u166 :: u167 :: u168 :: u169 :: u170 :: u171 :: []), []⟩ ((W.setCell ⟨gF, i, none⟩ (.int .i64 (f + r))).drew))) :
  Code.wp Try.prog rmReg20 (Exit.then K fun _ _ _ => False) ⟨List.toArray (u0 :: u1 :: u2 :: (.pointer (some ⟨bg, 0, none⟩)) :: u4 :: u5 :: u6 :: u7 :: u8 :: u9 :: u10 :: (.slice (some ⟨gF, 0, none⟩) N N) :: (.int .i64 N) :: u13 :: (.slice (some ⟨gb, 0, none⟩) nn nn) :: (.int .i64 r) :: (.int .i64 v) :: u17 :: u18 :: u19 :: u20 :: u21 :: u22 :: u23 :: u24 :: u25 :: u26 :: u27 :: u28 :: u29 :: u30 :: u31 :: u32 :: u33 :: u34 :: u35 :: u36 :: u37 :: u38 :: u39 :: u40 :: u41 :: u42 :: u43 :: u44 :: u45 :: u46 :: u47 :: u48 :: u49 :: u50 :: u51 :: u52 :: u53 :: u54 :: u55 :: u56 :: u57 :: u58 :: u59 :: u60 :: u61 :: u62 :: u63 :: u64 :: u65 :: u66 :: u67 :: u68 :: u69 :: u70 :: u71 :: u72 :: u73 :: u74 :: u75 :: u76 :: u77 :: u78 :: u79 :: u80 :: u81 :: u82 :: u83 :: u84 :: u85 :: u86 :: u87 :: u88 :: u89 :: u90 :: u91 :: u92 :: u93 :: u94 :: u95 :: u96 :: u97 :: u98 :: u99 :: u100 :: u101 :: u102 :: u103 :: u104 :: u105 :: u106 :: u107 :: u108 :: u109 :: u110 :: u111 :: u112 :: u113 :: u114 :: u115 :: u116 :: u117 :: u118 :: u119 :: u120 :: u121 :: u122 :: u123 :: u124 :: u125 :: u126 :: u127 :: u128 :: u129 :: u130 :: u131 :: u132 :: u133 :: u134 :: u135 :: u136 :: u137 :: u138 :: u139 :: u140 :: u141 :: u142 :: u143 :: u144 :: u145 :: u146 :: u147 :: u148 :: u149 :: u150 :: u151 :: u152 :: u153 :: u154 :: u155 :: u156 :: u157 :: u158 :: u159 :: u160 :: u161 :: u162 :: u163 :: u164 :: u165 :: u166 :: u167 :: u168 :: u169 :: u170 :: u171 :: []), []⟩ W := by
  skip
  conv => arg 2; whnf
  go_big_region
  exact HK.out _ _ _ _ _ _ _ _ _ _ _ _ _ _ _
noncomputable def rmReg21 : Code := ((Try.f87.body.bind (findRegion 21)).getD .skip)
set_option maxHeartbeats 4000000 in
set_option maxRecDepth 100000 in
theorem rm21 (W : World) (bg gF gb nn N c v i be oe x : Nat) (r f cap : Int) (K : Act → World → Prop) (hv : (v : Int) < (nn : Int)) (hi : (i : Int) < (N : Int)) (hN : N ≤ 512) (hsub : (i : Int) + (N : Int) - (N : Int) = (i : Int)) (f0 : 0 ≤ f) (f1 : f ≤ 1000000) (p0 : 0 ≤ cap) (p1 : cap ≤ 1000000) (r0 : 0 ≤ r) (r1 : r ≤ 1000000)
  (c1 : W.cell? ⟨bg, 1, none⟩ = some (.slice (some ⟨be, oe, none⟩) N c)) (cb : W.cell? ⟨gb, v, none⟩ = some (.int .i64 (i : Int))) (ce : W.cell? ⟨be, oe + i * 3 + 0, none⟩ = some (.int .i64 x)) (cf : W.cell? ⟨gF, i, none⟩ = some (.int .i64 f)) (cz : W.frozen? ⟨gF, i, none⟩ = false)
  (u0 u1 u2 u4 u5 u6 u7 u8 u9 u10 u13 u17 u18 u19 u20 u21 u22 u23 u24 u25 u26 u27 u28 u29 u30 u31 u32 u33 u34 u35 u36 u37 u38 u39 u40 u41 u42 u43 u44 u45 u46 u47 u48 u49 u50 u51 u52 u53 u54 u55 u56 u57 u58 u59 u60 u61 u62 u63 u64 u65 u66 u67 u68 u69 u70 u71 u72 u73 u74 u75 u76 u77 u78 u79 u80 u81 u82 u83 u84 u85 u86 u87 u88 u89 u90 u91 u92 u93 u94 u95 u96 u97 u98 u99 u100 u101 u102 u103 u104 u105 u106 u107 u108 u109 u110 u111 u112 u113 u114 u115 u116 u117 u118 u119 u120 u121 u122 u123 u124 u125 u126 u127 u128 u129 u130 u131 u132 u133 u134 u135 u136 u137 u138 u139 u140 u141 u142 u143 u144 u145 u146 u147 u148 u149 u150 u151 u152 u153 u154 u155 u156 u157 u158 u159 u160 u161 u162 u163 u164 u165 u166 u167 u168 u169 u170 u171 : Value)
  (HK : Hid (∀ (nq : Nat) (v133 v134 v135 v136 v137 v138 v139 v140 v141 : Value), K ⟨List.toArray (u0 :: u1 :: u2 :: (.pointer (some ⟨bg, 0, none⟩)) :: u4 :: u5 :: u6 :: u7 :: u8 :: u9 :: u10 :: (.slice (some ⟨gF, 0, none⟩) N N) :: (.int .i64 N) :: u13 :: (.slice (some ⟨gb, 0, none⟩) nn nn) :: (.int .i64 r) :: (.int .i64 x) :: u17 :: u18 :: u19 :: u20 :: u21 :: u22 :: u23 :: u24 :: u25 :: u26 :: u27 :: u28 :: u29 :: u30 :: u31 :: u32 :: u33 :: u34 :: u35 :: u36 :: u37 :: u38 :: u39 :: u40 :: u41 :: u42 :: u43 :: u44 :: u45 :: u46 :: u47 :: u48 :: u49 :: u50 :: u51 :: u52 :: u53 :: u54 :: u55 :: u56 :: u57 :: u58 :: u59 :: u60 :: u61 :: u62 :: u63 :: u64 :: u65 :: u66 :: u67 :: u68 :: u69 :: u70 :: u71 :: u72 :: u73 :: u74 :: u75 :: u76 :: u77 :: u78 :: u79 :: u80 :: u81 :: u82 :: u83 :: u84 :: u85 :: u86 :: u87 :: u88 :: u89 :: u90 :: u91 :: u92 :: u93 :: u94 :: u95 :: u96 :: u97 :: u98 :: u99 :: u100 :: u101 :: u102 :: u103 :: u104 :: u105 :: u106 :: u107 :: u108 :: u109 :: u110 :: u111 :: u112 :: u113 :: u114 :: u115 :: u116 :: u117 :: u118 :: u119 :: u120 :: u121 :: u122 :: u123 :: u124 :: u125 :: u126 :: u127 :: u128 :: u129 :: u130 :: u131 :: u132 :: v133 :: v134 :: v135 :: v136 :: v137 :: v138 :: v139 :: v140 :: v141 :: u142 :: u143 :: u144 :: u145 :: u146 :: u147 :: u148 :: u149 :: u150 :: u151 :: u152 :: u153 :: u154 :: u155 :: u156 :: u157 :: u158 :: u159 :: u160 :: u161 :: u162 :: u163 :: u164 :: u165 :: u166 :: u167 :: u168 :: u169 :: u170 :: u171 :: []), []⟩ (W.drewN nq))) :
  Code.wp Try.prog rmReg21 (Exit.then K fun _ _ _ => False) ⟨List.toArray (u0 :: u1 :: u2 :: (.pointer (some ⟨bg, 0, none⟩)) :: u4 :: u5 :: u6 :: u7 :: u8 :: u9 :: u10 :: (.slice (some ⟨gF, 0, none⟩) N N) :: (.int .i64 N) :: u13 :: (.slice (some ⟨gb, 0, none⟩) nn nn) :: (.int .i64 r) :: (.int .i64 v) :: u17 :: u18 :: u19 :: u20 :: u21 :: u22 :: u23 :: u24 :: u25 :: u26 :: u27 :: u28 :: u29 :: u30 :: u31 :: u32 :: u33 :: u34 :: u35 :: u36 :: u37 :: u38 :: u39 :: u40 :: u41 :: u42 :: u43 :: u44 :: u45 :: u46 :: u47 :: u48 :: u49 :: u50 :: u51 :: u52 :: u53 :: u54 :: u55 :: u56 :: u57 :: u58 :: u59 :: u60 :: u61 :: u62 :: u63 :: u64 :: u65 :: u66 :: u67 :: u68 :: u69 :: u70 :: u71 :: u72 :: u73 :: u74 :: u75 :: u76 :: u77 :: u78 :: u79 :: u80 :: u81 :: u82 :: u83 :: u84 :: u85 :: u86 :: u87 :: u88 :: u89 :: u90 :: u91 :: u92 :: u93 :: u94 :: u95 :: u96 :: u97 :: u98 :: u99 :: u100 :: u101 :: u102 :: u103 :: u104 :: u105 :: u106 :: u107 :: u108 :: u109 :: u110 :: u111 :: u112 :: u113 :: u114 :: u115 :: u116 :: u117 :: u118 :: u119 :: u120 :: u121 :: u122 :: u123 :: u124 :: u125 :: u126 :: u127 :: u128 :: u129 :: u130 :: u131 :: u132 :: u133 :: u134 :: u135 :: u136 :: u137 :: u138 :: u139 :: u140 :: u141 :: u142 :: u143 :: u144 :: u145 :: u146 :: u147 :: u148 :: u149 :: u150 :: u151 :: u152 :: u153 :: u154 :: u155 :: u156 :: u157 :: u158 :: u159 :: u160 :: u161 :: u162 :: u163 :: u164 :: u165 :: u166 :: u167 :: u168 :: u169 :: u170 :: u171 :: []), []⟩ W := by
  try rw [Nat.add_zero] at ce
  conv => arg 2; whnf
  go_quiet (fail)
  exact HK.out _ _ _ _ _ _ _ _ _ _
noncomputable def rmReg22 : Code := ((Try.f87.body.bind (findRegion 22)).getD .skip)
set_option maxHeartbeats 4000000 in
set_option maxRecDepth 100000 in
theorem rm22 (W : World) (bg gF gb nn N c v i be oe x : Nat) (r f cap : Int) (K : Act → World → Prop) (hv : (v : Int) < (nn : Int)) (hi : (i : Int) < (N : Int)) (hN : N ≤ 512) (hsub : (i : Int) + (N : Int) - (N : Int) = (i : Int)) (f0 : 0 ≤ f) (f1 : f ≤ 1000000) (p0 : 0 ≤ cap) (p1 : cap ≤ 1000000) (r0 : 0 ≤ r) (r1 : r ≤ 1000000)
  (c1 : W.cell? ⟨bg, 1, none⟩ = some (.slice (some ⟨be, oe, none⟩) N c)) (cb : W.cell? ⟨gb, v, none⟩ = some (.int .i64 ((i : Int) + (N : Int)))) (ce : W.cell? ⟨be, oe + i * 3 + 2, none⟩ = some (.int .i64 cap)) (cf : W.cell? ⟨gF, i, none⟩ = some (.int .i64 f)) (cz : W.frozen? ⟨gF, i, none⟩ = false)
  (u0 u1 u2 u4 u5 u6 u7 u8 u9 u10 u13 u17 u18 u19 u20 u21 u22 u23 u24 u25 u26 u27 u28 u29 u30 u31 u32 u33 u34 u35 u36 u37 u38 u39 u40 u41 u42 u43 u44 u45 u46 u47 u48 u49 u50 u51 u52 u53 u54 u55 u56 u57 u58 u59 u60 u61 u62 u63 u64 u65 u66 u67 u68 u69 u70 u71 u72 u73 u74 u75 u76 u77 u78 u79 u80 u81 u82 u83 u84 u85 u86 u87 u88 u89 u90 u91 u92 u93 u94 u95 u96 u97 u98 u99 u100 u101 u102 u103 u104 u105 u106 u107 u108 u109 u110 u111 u112 u113 u114 u115 u116 u117 u118 u119 u120 u121 u122 u123 u124 u125 u126 u127 u128 u129 u130 u131 u132 u133 u134 u135 u136 u137 u138 u139 u140 u141 u142 u143 u144 u145 u146 u147 u148 u149 u150 u151 u152 u153 u154 u155 u156 u157 u158 u159 u160 u161 u162 u163 u164 u165 u166 u167 u168 u169 u170 u171 : Value)
  (HK : Hid (∀ (v142 v143 v144 v145 v146 v147 v148 v149 v150 v151 v152 v153 v154 v155 v156 v157 v158 v159 v160 : Value), K ⟨List.toArray (u0 :: u1 :: u2 :: (.pointer (some ⟨bg, 0, none⟩)) :: u4 :: u5 :: u6 :: u7 :: u8 :: u9 :: u10 :: (.slice (some ⟨gF, 0, none⟩) N N) :: (.int .i64 N) :: u13 :: (.slice (some ⟨gb, 0, none⟩) nn nn) :: (.int .i64 r) :: (.int .i64 v) :: u17 :: u18 :: u19 :: u20 :: u21 :: u22 :: u23 :: u24 :: u25 :: u26 :: u27 :: u28 :: u29 :: u30 :: u31 :: u32 :: u33 :: u34 :: u35 :: u36 :: u37 :: u38 :: u39 :: u40 :: u41 :: u42 :: u43 :: u44 :: u45 :: u46 :: u47 :: u48 :: u49 :: u50 :: u51 :: u52 :: u53 :: u54 :: u55 :: u56 :: u57 :: u58 :: u59 :: u60 :: u61 :: u62 :: u63 :: u64 :: u65 :: u66 :: u67 :: u68 :: u69 :: u70 :: u71 :: u72 :: u73 :: u74 :: u75 :: u76 :: u77 :: u78 :: u79 :: u80 :: u81 :: u82 :: u83 :: u84 :: u85 :: u86 :: u87 :: u88 :: u89 :: u90 :: u91 :: u92 :: u93 :: u94 :: u95 :: u96 :: u97 :: u98 :: u99 :: u100 :: u101 :: u102 :: u103 :: u104 :: u105 :: u106 :: u107 :: u108 :: u109 :: u110 :: u111 :: u112 :: u113 :: u114 :: u115 :: u116 :: u117 :: u118 :: u119 :: u120 :: u121 :: u122 :: u123 :: u124 :: u125 :: u126 :: u127 :: u128 :: u129 :: u130 :: u131 :: u132 :: u133 :: u134 :: u135 :: u136 :: u137 :: u138 :: u139 :: u140 :: u141 :: v142 :: v143 :: v144 :: v145 :: v146 :: v147 :: v148 :: v149 :: v150 :: v151 :: v152 :: v153 :: v154 :: v155 :: v156 :: v157 :: v158 :: v159 :: v160 :: u161 :: u162 :: u163 :: u164 :: u165 :: u166 :: u167 :: u168 :: u169 :: u170 :: u171 :: []), []⟩ ((W.setCell ⟨gF, i, none⟩ (.int .i64 (f - r))).drew))) :
  Code.wp Try.prog rmReg22 (Exit.then K fun _ _ _ => False) ⟨List.toArray (u0 :: u1 :: u2 :: (.pointer (some ⟨bg, 0, none⟩)) :: u4 :: u5 :: u6 :: u7 :: u8 :: u9 :: u10 :: (.slice (some ⟨gF, 0, none⟩) N N) :: (.int .i64 N) :: u13 :: (.slice (some ⟨gb, 0, none⟩) nn nn) :: (.int .i64 r) :: (.int .i64 v) :: u17 :: u18 :: u19 :: u20 :: u21 :: u22 :: u23 :: u24 :: u25 :: u26 :: u27 :: u28 :: u29 :: u30 :: u31 :: u32 :: u33 :: u34 :: u35 :: u36 :: u37 :: u38 :: u39 :: u40 :: u41 :: u42 :: u43 :: u44 :: u45 :: u46 :: u47 :: u48 :: u49 :: u50 :: u51 :: u52 :: u53 :: u54 :: u55 :: u56 :: u57 :: u58 :: u59 :: u60 :: u61 :: u62 :: u63 :: u64 :: u65 :: u66 :: u67 :: u68 :: u69 :: u70 :: u71 :: u72 :: u73 :: u74 :: u75 :: u76 :: u77 :: u78 :: u79 :: u80 :: u81 :: u82 :: u83 :: u84 :: u85 :: u86 :: u87 :: u88 :: u89 :: u90 :: u91 :: u92 :: u93 :: u94 :: u95 :: u96 :: u97 :: u98 :: u99 :: u100 :: u101 :: u102 :: u103 :: u104 :: u105 :: u106 :: u107 :: u108 :: u109 :: u110 :: u111 :: u112 :: u113 :: u114 :: u115 :: u116 :: u117 :: u118 :: u119 :: u120 :: u121 :: u122 :: u123 :: u124 :: u125 :: u126 :: u127 :: u128 :: u129 :: u130 :: u131 :: u132 :: u133 :: u134 :: u135 :: u136 :: u137 :: u138 :: u139 :: u140 :: u141 :: u142 :: u143 :: u144 :: u145 :: u146 :: u147 :: u148 :: u149 :: u150 :: u151 :: u152 :: u153 :: u154 :: u155 :: u156 :: u157 :: u158 :: u159 :: u160 :: u161 :: u162 :: u163 :: u164 :: u165 :: u166 :: u167 :: u168 :: u169 :: u170 :: u171 :: []), []⟩ W := by
  skip
  conv => arg 2; whnf
  go_big_region
  exact HK.out _ _ _ _ _ _ _ _ _ _ _ _ _ _ _ _ _ _ _
noncomputable def rmReg23 : Code := ((Try.f87.body.bind (findRegion 23)).getD .skip)
set_option maxHeartbeats 4000000 in
set_option maxRecDepth 100000 in
theorem rm23 (W : World) (bg gF gb nn N c v i be oe x : Nat) (r f cap : Int) (K : Act → World → Prop) (hv : (v : Int) < (nn : Int)) (hi : (i : Int) < (N : Int)) (hN : N ≤ 512) (hsub : (i : Int) + (N : Int) - (N : Int) = (i : Int)) (f0 : 0 ≤ f) (f1 : f ≤ 1000000) (p0 : 0 ≤ cap) (p1 : cap ≤ 1000000) (r0 : 0 ≤ r) (r1 : r ≤ 1000000)
  (c1 : W.cell? ⟨bg, 1, none⟩ = some (.slice (some ⟨be, oe, none⟩) N c)) (cb : W.cell? ⟨gb, v, none⟩ = some (.int .i64 ((i : Int) + (N : Int)))) (ce : W.cell? ⟨be, oe + i * 3 + 1, none⟩ = some (.int .i64 x)) (cf : W.cell? ⟨gF, i, none⟩ = some (.int .i64 f)) (cz : W.frozen? ⟨gF, i, none⟩ = false)
  (u0 u1 u2 u4 u5 u6 u7 u8 u9 u10 u13 u17 u18 u19 u20 u21 u22 u23 u24 u25 u26 u27 u28 u29 u30 u31 u32 u33 u34 u35 u36 u37 u38 u39 u40 u41 u42 u43 u44 u45 u46 u47 u48 u49 u50 u51 u52 u53 u54 u55 u56 u57 u58 u59 u60 u61 u62 u63 u64 u65 u66 u67 u68 u69 u70 u71 u72 u73 u74 u75 u76 u77 u78 u79 u80 u81 u82 u83 u84 u85 u86 u87 u88 u89 u90 u91 u92 u93 u94 u95 u96 u97 u98 u99 u100 u101 u102 u103 u104 u105 u106 u107 u108 u109 u110 u111 u112 u113 u114 u115 u116 u117 u118 u119 u120 u121 u122 u123 u124 u125 u126 u127 u128 u129 u130 u131 u132 u133 u134 u135 u136 u137 u138 u139 u140 u141 u142 u143 u144 u145 u146 u147 u148 u149 u150 u151 u152 u153 u154 u155 u156 u157 u158 u159 u160 u161 u162 u163 u164 u165 u166 u167 u168 u169 u170 u171 : Value)
  (HK : Hid (∀ (nq : Nat) (v161 v162 v163 v164 v165 v166 v167 v168 v169 v170 v171 : Value), K ⟨List.toArray (u0 :: u1 :: u2 :: (.pointer (some ⟨bg, 0, none⟩)) :: u4 :: u5 :: u6 :: u7 :: u8 :: u9 :: u10 :: (.slice (some ⟨gF, 0, none⟩) N N) :: (.int .i64 N) :: u13 :: (.slice (some ⟨gb, 0, none⟩) nn nn) :: (.int .i64 r) :: (.int .i64 x) :: u17 :: u18 :: u19 :: u20 :: u21 :: u22 :: u23 :: u24 :: u25 :: u26 :: u27 :: u28 :: u29 :: u30 :: u31 :: u32 :: u33 :: u34 :: u35 :: u36 :: u37 :: u38 :: u39 :: u40 :: u41 :: u42 :: u43 :: u44 :: u45 :: u46 :: u47 :: u48 :: u49 :: u50 :: u51 :: u52 :: u53 :: u54 :: u55 :: u56 :: u57 :: u58 :: u59 :: u60 :: u61 :: u62 :: u63 :: u64 :: u65 :: u66 :: u67 :: u68 :: u69 :: u70 :: u71 :: u72 :: u73 :: u74 :: u75 :: u76 :: u77 :: u78 :: u79 :: u80 :: u81 :: u82 :: u83 :: u84 :: u85 :: u86 :: u87 :: u88 :: u89 :: u90 :: u91 :: u92 :: u93 :: u94 :: u95 :: u96 :: u97 :: u98 :: u99 :: u100 :: u101 :: u102 :: u103 :: u104 :: u105 :: u106 :: u107 :: u108 :: u109 :: u110 :: u111 :: u112 :: u113 :: u114 :: u115 :: u116 :: u117 :: u118 :: u119 :: u120 :: u121 :: u122 :: u123 :: u124 :: u125 :: u126 :: u127 :: u128 :: u129 :: u130 :: u131 :: u132 :: u133 :: u134 :: u135 :: u136 :: u137 :: u138 :: u139 :: u140 :: u141 :: u142 :: u143 :: u144 :: u145 :: u146 :: u147 :: u148 :: u149 :: u150 :: u151 :: u152 :: u153 :: u154 :: u155 :: u156 :: u157 :: u158 :: u159 :: u160 :: v161 :: v162 :: v163 :: v164 :: v165 :: v166 :: v167 :: v168 :: v169 :: v170 :: v171 :: []), []⟩ (W.drewN nq))) :
  Code.wp Try.prog rmReg23 (Exit.then K fun _ _ _ => False) ⟨List.toArray (u0 :: u1 :: u2 :: (.pointer (some ⟨bg, 0, none⟩)) :: u4 :: u5 :: u6 :: u7 :: u8 :: u9 :: u10 :: (.slice (some ⟨gF, 0, none⟩) N N) :: (.int .i64 N) :: u13 :: (.slice (some ⟨gb, 0, none⟩) nn nn) :: (.int .i64 r) :: (.int .i64 v) :: u17 :: u18 :: u19 :: u20 :: u21 :: u22 :: u23 :: u24 :: u25 :: u26 :: u27 :: u28 :: u29 :: u30 :: u31 :: u32 :: u33 :: u34 :: u35 :: u36 :: u37 :: u38 :: u39 :: u40 :: u41 :: u42 :: u43 :: u44 :: u45 :: u46 :: u47 :: u48 :: u49 :: u50 :: u51 :: u52 :: u53 :: u54 :: u55 :: u56 :: u57 :: u58 :: u59 :: u60 :: u61 :: u62 :: u63 :: u64 :: u65 :: u66 :: u67 :: u68 :: u69 :: u70 :: u71 :: u72 :: u73 :: u74 :: u75 :: u76 :: u77 :: u78 :: u79 :: u80 :: u81 :: u82 :: u83 :: u84 :: u85 :: u86 :: u87 :: u88 :: u89 :: u90 :: u91 :: u92 :: u93 :: u94 :: u95 :: u96 :: u97 :: u98 :: u99 :: u100 :: u101 :: u102 :: u103 :: u104 :: u105 :: u106 :: u107 :: u108 :: u109 :: u110 :: u111 :: u112 :: u113 :: u114 :: u115 :: u116 :: u117 :: u118 :: u119 :: u120 :: u121 :: u122 :: u123 :: u124 :: u125 :: u126 :: u127 :: u128 :: u129 :: u130 :: u131 :: u132 :: u133 :: u134 :: u135 :: u136 :: u137 :: u138 :: u139 :: u140 :: u141 :: u142 :: u143 :: u144 :: u145 :: u146 :: u147 :: u148 :: u149 :: u150 :: u151 :: u152 :: u153 :: u154 :: u155 :: u156 :: u157 :: u158 :: u159 :: u160 :: u161 :: u162 :: u163 :: u164 :: u165 :: u166 :: u167 :: u168 :: u169 :: u170 :: u171 :: []), []⟩ W := by
  skip
  conv => arg 2; whnf
  go_quiet (fail)
  exact HK.out _ _ _ _ _ _ _ _ _ _ _ _
end Go.Proofs.Ytgfcnkfmgpakkaa
