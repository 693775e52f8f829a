/-
The reference's search: what lies in memory, and what a node that is marked changes.
-/
import Derived.Test.YtmmmgafnmpaohaaGWay
import Derived.Test.YtmmmgafnmpaohaaCFlowP
import Derived.Test.YtmmmgafnmpaohaaGAppE
namespace Go.Proofs.Ytmmmgafnmpaohaa
open Go.RowKit
theorem encI_len (x : Int) : (encI x).length = 1 := rfl
theorem encI_one (x : Int) (u : Value) (h : u ∈ encI x) : u.oneCell' = true := by
  simp [encI] at h
  subst h
  rfl
theorem appInfoInt : (Try.prog.info? 3).map (fun i => (i.zero, i.size, i.bytes)) = some (some (.int .i64 0), 1, 8) := by kernel_rfl
/-- By which edge a node was found, in the reference's way to say it. -/
def byOf (N : Nat) (x : GStep) : Int := if x.fwd then x.edge else x.edge + N
structure RSt (nn N base gs gb : Nat) (w0 W : World) (v : Value) (seen : List Bool) (st : List GStep) (xs : List Int) : Prop where
  sn : Own W gs 4 nn (fun i => .bool (bAt seen i))
  by_ : Own W gb 3 nn (fun i => .int .i64 (byOf N (stAt st i)))
  ls : OwnR 3 1 encI W base v xs
  bel : Below w0.heap.size w0 W
  hb : base ≤ W.heap.size
  h1 : gs < base
  h2 : gb < base
  h3 : w0.heap.size ≤ gs
  h4 : w0.heap.size ≤ gb
  h5 : gs ≠ gb
theorem RSt.alloc {nn N base gs gb : Nat} {w0 W : World} {v : Value} {seen : List Bool} {st : List GStep} {xs : List Int} (h : RSt nn N base gs gb w0 W v seen st xs) (o : Obj) : RSt nn N base gs gb w0 (W.alloc o) v seen st xs :=
  ⟨h.sn.alloc o, h.by_.alloc o, h.ls.alloc o, h.bel.alloc h.bel.size o, Nat.le_trans h.hb (by simp), h.h1, h.h2, h.h3, h.h4, h.h5⟩
theorem RSt.drew {nn N base gs gb : Nat} {w0 W : World} {v : Value} {seen : List Bool} {st : List GStep} {xs : List Int} (h : RSt nn N base gs gb w0 W v seen st xs) : RSt nn N base gs gb w0 W.drew v seen st xs :=
  ⟨h.sn.drew, h.by_.drew, h.ls, Below.drew h.bel, h.hb, h.h1, h.h2, h.h3, h.h4, h.h5⟩
def RMod (gs gb : Nat) (v : Value) (k : Nat) : Prop := k = gs ∨ k = gb ∨ v.ownBlock = some k
theorem own_int1 (w : World) (x : Int) : Rd 1 encI (w.alloc (.cells #[.int .i64 x] 3)) (some ⟨w.heap.size, 0, none⟩) [x] :=
  (Own.new w 3 #[.int .i64 x] undef).rd (Nat.le_refl _) (fun _ => rfl) (fun k y hy j v hv => by
    have hk : k = 0 := by have := (List.getElem?_eq_some_iff.1 hy).1; simp at this; exact this
    subst hk
    simp at hy
    subst hy
    have hj : j = 0 := by have := (List.getElem?_eq_some_iff.1 hv).1; simp [encI] at this; exact this
    subst hj
    simpa [encI] using hv)
theorem OwnR.other {α : Type} {t : TypeId} {sz : Nat} {enc : α → List Value} {w : World} {base : Nat} {v : Value} {xs : List α} (h : OwnR t sz enc w base v xs) {p : Addr} (hp : p.block < base) (u : Value) : OwnR t sz enc (w.setCell p u) base v xs :=
  h.mod (M := fun k => k = p.block) ((Mod.refl (fun k => k = p.block) w).setCell (p := p) (.inl rfl) u) (fun k hk he => by have := (World.ownsRow.lt h k hk).1; omega)
theorem RSt.mark {nn N base gs gb : Nat} {w0 W : World} {v : Value} {seen : List Bool} {st : List GStep} {xs : List Int} (h : RSt nn N base gs gb w0 W v seen st xs) (x : GStep) (d : Nat) (b : Int) (hS : seen.length = nn) (hB : st.length = nn) (hd : d < nn) (hb : byOf N x = b) (hl : xs.length ≤ 1000000) :
    Appends Try.prog (((W.setCell ⟨gs, d, none⟩ (.bool true)).setCell ⟨gb, d, none⟩ (.int .i64 b)).alloc (.cells #[.int .i64 d] 3)) 23 23 v (.slice (some ⟨W.heap.size, 0, none⟩) 1 1) ∧
    ∃ v' W3, appV Try.prog (((W.setCell ⟨gs, d, none⟩ (.bool true)).setCell ⟨gb, d, none⟩ (.int .i64 b)).alloc (.cells #[.int .i64 d] 3)) 23 23 v (.slice (some ⟨W.heap.size, 0, none⟩) 1 1) = v' ∧
      appW Try.prog (((W.setCell ⟨gs, d, none⟩ (.bool true)).setCell ⟨gb, d, none⟩ (.int .i64 b)).alloc (.cells #[.int .i64 d] 3)) 23 23 v (.slice (some ⟨W.heap.size, 0, none⟩) 1 1) = W3 ∧
      Hid (RSt nn N base gs gb w0 W3 v' (seen.set d true) (st.set d x) (xs ++ [(d : Int)])) ∧ Hid (Mod (RMod gs gb v) W W3) := by
  have s1 : (W.setCell ⟨gs, d, none⟩ (.bool true)).heap.size = W.heap.size := by simp [World.setCell]
  have s2 : ((W.setCell ⟨gs, d, none⟩ (.bool true)).setCell ⟨gb, d, none⟩ (.int .i64 b)).heap.size = W.heap.size := by simp [World.setCell]
  have o1 : Own ((W.setCell ⟨gs, d, none⟩ (.bool true)).setCell ⟨gb, d, none⟩ (.int .i64 b)) gs 4 nn (fun i => .bool (bAt (seen.set d true) i)) :=
    ((h.sn.set d (.bool true)).other h.h5 _).congr (fun i hi => by
      rw [bAt_set (by omega)]
      by_cases e : i = d <;> simp [e])
  have o2 : Own ((W.setCell ⟨gs, d, none⟩ (.bool true)).setCell ⟨gb, d, none⟩ (.int .i64 b)) gb 3 nn (fun i => .int .i64 (byOf N (stAt (st.set d x) i))) :=
    ((h.by_.other (p := ⟨gs, d, none⟩) (Ne.symm h.h5) _).set d (.int .i64 b)).congr (fun i hi => by
      rw [stAt_set (by omega)]
      by_cases e : i = d <;> simp [e, hb])
  have o3 : OwnR 3 1 encI ((W.setCell ⟨gs, d, none⟩ (.bool true)).setCell ⟨gb, d, none⟩ (.int .i64 b)) base v xs := (h.ls.other (p := ⟨gs, d, none⟩) h.h1 _).other (p := ⟨gb, d, none⟩) h.h2 _
  have m2 : Mod (RMod gs gb v) W ((W.setCell ⟨gs, d, none⟩ (.bool true)).setCell ⟨gb, d, none⟩ (.int .i64 b)) := ((Mod.refl _ W).setCell (.inl (.inl rfl)) _).setCell (.inl (.inr (.inl rfl))) _
  have b2 : Below w0.heap.size w0 ((W.setCell ⟨gs, d, none⟩ (.bool true)).setCell ⟨gb, d, none⟩ (.int .i64 b)) := (h.bel.setCell (p := ⟨gs, d, none⟩) h.h3 _).setCell (p := ⟨gb, d, none⟩) h.h4 _
  have hbb := h.hb
  rw [← s2] at hbb
  generalize ((W.setCell ⟨gs, d, none⟩ (.bool true)).setCell ⟨gb, d, none⟩ (.int .i64 b)) = W2 at *
  obtain ⟨p1, v', W3, p2, p3, p4, p5, p6⟩ := app_rows (P := Try.prog) (ty := 23) (c := 1) (m := 1) appInfoInt Try.underlying23 rfl (by omega) encI_len encI_one (o3.alloc (.cells #[.int .i64 d] 3)) (own_int1 W2 d) rfl ⟨_, rfl⟩ (by simp; omega) (by unfold maxLen; omega) (by omega)
  rw [s2] at p1 p2 p3
  have own0 : ∀ k, v.ownBlock = some k → base ≤ k := fun k hk => (World.ownsRow.lt o3 k hk).1
  have m3 : Mod (fun k => v.ownBlock = some k) W2 W3 := ((Mod.refl _ W2).alloc _).trans p5
  refine ⟨p1, v', W3, p2, p3, Lib.hid ⟨o1.mod m3 (fun e => by have := own0 _ e; have := h.h1; omega), o2.mod m3 (fun e => by have := own0 _ e; have := h.h2; omega), p4, ?_, Nat.le_trans hbb m3.size, h.h1, h.h2, h.h3, h.h4, h.h5⟩, Lib.hid ?_⟩
  · exact b2.trans (m3.below b2.size (fun k _ hk => Nat.le_trans (Nat.le_trans h.h3 (Nat.le_of_lt h.h1)) (own0 k hk)))
  · exact m2.trans (m3.mono (fun k _ hk => .inr (.inr hk)))
/-- Of the first i edges all that can be reached from u in one step was found. -/
def DoneTo (es : List GEdge) (fl : List Int) (seen : List Bool) (u i : Nat) : Prop :=
  ∀ j, j < i → ((eAt es j).frm = u → fAt fl j < (eAt es j).cap → bAt seen (eAt es j).to.toNat = true) ∧ ((eAt es j).to = u → 0 < fAt fl j → bAt seen (eAt es j).frm.toNat = true)
theorem DoneTo.mono {es : List GEdge} {fl : List Int} {seen seen' : List Bool} {u i : Nat} (h : DoneTo es fl seen u i) (hs : ∀ v, bAt seen v = true → bAt seen' v = true) : DoneTo es fl seen' u i := fun j hj =>
  ⟨fun a b => hs _ ((h j hj).1 a b), fun a b => hs _ ((h j hj).2 a b)⟩
theorem DoneTo.succ {es : List GEdge} {fl : List Int} {seen : List Bool} {u i : Nat} (h : DoneTo es fl seen u i) (h1 : (eAt es i).frm = u → fAt fl i < (eAt es i).cap → bAt seen (eAt es i).to.toNat = true) (h2 : (eAt es i).to = u → 0 < fAt fl i → bAt seen (eAt es i).frm.toNat = true) : DoneTo es fl seen u (i + 1) := fun j hj => by
  by_cases e : j = i
  · subst e; exact ⟨h1, h2⟩
  · exact h j (by omega)
/-- The nodes before number k of the list are done. -/
def DoneL (es : List GEdge) (fl : List Int) (N : Nat) (seen : List Bool) (xs : List Int) (k : Nat) : Prop :=
  ∀ (j u : Nat), j < k → xs[j]? = some (u : Int) → DoneTo es fl seen u N
theorem DoneL.mono {es : List GEdge} {fl : List Int} {N : Nat} {seen seen' : List Bool} {xs ys : List Int} {k : Nat} (h : DoneL es fl N seen xs k) (hk : k ≤ xs.length) (hs : ∀ v, bAt seen v = true → bAt seen' v = true) : DoneL es fl N seen' (xs ++ ys) k := fun j u hj hx =>
  (h j u hj (by rwa [List.getElem?_append_left (by omega)] at hx)).mono hs
theorem seen_more {seen : List Bool} {d : Nat} (hd : d < seen.length) : ∀ v, bAt seen v = true → bAt (seen.set d true) v = true := fun v hv => by rw [bAt_set hd, hv]; simp
/-- What the search ends with. -/
theorem reach_end {es : List GEdge} {fl : List Int} {nn N s : Nat} {seen : List Bool} {st : List GStep} {xs : List Int} {k : Nat} (h : Bfs es fl nn N s nn seen st xs) (hd : DoneL es fl N seen xs k) (hk : k = xs.length) : ∀ u, u < nn → bAt seen u = true → DoneAt es fl N seen u := by
  intro u hu hus i hi
  obtain ⟨j, hj, e⟩ := List.getElem_of_mem (h.listed u hu hus)
  exact hd j u (by omega) (by rw [List.getElem?_eq_getElem hj, e]) i hi
theorem bfs_len {es : List GEdge} {fl : List Int} {nn N s t : Nat} {seen : List Bool} {st : List GStep} {xs : List Int} (h : Bfs es fl nn N s t seen st xs) : xs.length ≤ nn := by
  rw [← h.cnt, ← h.lenS]
  exact List.count_le_length
def stZero : GStep := ⟨0, 0, 0, true⟩
theorem bfs_start {es : List GEdge} {fl : List Int} {nn N s : Nat} (hs : s < nn) : Bfs es fl nn N s nn ((List.replicate nn false).set s true) (List.replicate nn stZero) [(s : Int)] := by
  have hb : ∀ u, bAt ((List.replicate nn false).set s true) u = if u = s then true else false := by
    intro u
    rw [bAt_set (by simpa using hs)]
    congr 1
    unfold bAt
    rw [List.getElem?_replicate]
    split <;> rfl
  refine ⟨by simp, by simp, by rw [hb]; simp, ⟨fun _ => 0, fun v hv hs' => by simp, fun v hv hvs hne => ?_⟩, fun v hv hvs => ?_, fun x hx => ?_, ?_, ?_⟩
  · rw [hb, if_neg hne] at hvs; cases hvs
  · rw [hb] at hvs
    by_cases e : v = s
    · subst e; simp
    · rw [if_neg e] at hvs; cases hvs
  · simp at hx
    exact ⟨s, hx, hs, by rw [hb]; simp⟩
  · rw [count_set _ _ (by simpa using hs) (by unfold bAt; rw [List.getElem?_replicate, if_pos hs]; rfl), List.count_replicate]
    simp
  · rw [hb, if_neg (by omega)]
end Go.Proofs.Ytmmmgafnmpaohaa
