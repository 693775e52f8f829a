/-
Several texts in one: FlowL0, FlowM, FlowN, FlowO.
-/
import Derived.Test.YtgfcnkfmgpakkaaGFlowI
import Derived.WalkMore
import Derived.Test.YtgfcnkfmgpakkaaGBase
import Derived.Test.YtgfcnkfmgpakkaaGWay
import Derived.Deep.LoopGhost
import Derived.BigQuiet
import Derived.BigRegion
/-
The search for a way: its state in memory.
-/
namespace Go.Proofs.Ytgfcnkfmgpakkaa
open Go.RowKit Go.Shelf

theorem infoBool : (Try.prog.info? 4).map (fun i => (i.zero, i.size, i.bytes)) = some (some (.bool false), 1, 1) := by kernel_rfl
theorem infoStep : (Try.prog.info? 122).map (fun i => (i.zero, i.size, i.bytes)) = some (some (.agg #[.int .i64 0, .int .i64 0, .int .i64 0, .bool false]), 4, 32) := by kernel_rfl

def stCell (st : List GStep) (j : Nat) : Value :=
  if j % 4 = 0 then .int .i64 (st[j / 4]?.getD default).edge else if j % 4 = 1 then .int .i64 (st[j / 4]?.getD default).dst else if j % 4 = 2 then .int .i64 (st[j / 4]?.getD default).room else .bool (st[j / 4]?.getD default).fwd

/-- The search's own memory. -/
structure SMem (W : World) (b5 b8 b9 bq gs gb B nn : Nat) (t : Int) (v : Value) (seen : List Bool) (st : List GStep) (xs : List Int) (h : Nat) : Prop where
  k5 : Own W b5 3 1 (fun _ => .int .i64 t)
  k8 : Own W b8 75 1 (fun _ => .slice (some ⟨gs, 0, none⟩) nn nn)
  k9 : Own W b9 101 1 (fun _ => .slice (some ⟨gb, 0, none⟩) nn nn)
  sn : Own W gs 4 nn (fun i => .bool (seen[i]?.getD false))
  by_ : Own W gb 122 (nn * 4) (stCell st)
  qu : Queue W bq B v xs h
  l5 : b5 < B

theorem made_step (W : World) (nn g : Nat) (hg : W.heap.size = g) : Own (W.alloc (.cells (madeCells #[.int .i64 0, .int .i64 0, .int .i64 0, .bool false] (nn * 4)) 122)) g 122 (nn * 4) (stCell (List.replicate nn default)) := by
  subst hg
  refine (Own.made W 122 _ (nn * 4)).congr (fun i hi => ?_)
  have h4 : i / 4 < nn := by omega
  unfold stCell
  rw [List.getElem?_replicate, if_pos h4]
  have : i % 4 < 4 := Nat.mod_lt _ (by omega)
  generalize i % 4 = r at *
  match r, this with
  | 0, _ => rfl
  | 1, _ => rfl
  | 2, _ => rfl
  | 3, _ => rfl

theorem one_cell (v : Value) : ∀ i, i < 1 → (#[v] : Array Value)[i]? = some ((fun _ : Nat => v) i) := by
  intro i hi
  obtain rfl : i = 0 := by omega
  rfl
theorem queue_cells (v : Value) : ∀ i, i < 2 → (#[v, Value.int .i64 0] : Array Value)[i]? = some (queueCell v (0 : Nat) i) := by
  intro i hi
  match i, hi with
  | 0, _ => rfl
  | 1, _ => rfl
def SearchPost (R : World → List Bool → List GStep → Prop) (w : World) (nn : Nat) (e : Ending) (w' : World) : Prop :=
  ∃ gs gb seen st, e = .returned (.tuple #[.slice (some ⟨gs, 0, none⟩) nn nn, .slice (some ⟨gb, 0, none⟩) nn nn]) ∧ Own w' gs 4 nn (fun i => .bool (seen[i]?.getD false)) ∧ Own w' gb 122 (nn * 4) (stCell st) ∧ R w' seen st ∧ Below w.heap.size w w' ∧ w.heap.size ≤ gs ∧ w.heap.size ≤ gb

end Go.Proofs.Ytgfcnkfmgpakkaa
/-
The search's memory when a node is marked as seen and its step laid down.
-/
namespace Go.Proofs.Ytgfcnkfmgpakkaa
open Go.RowKit Go.Shelf

theorem ownsRow_mod {M : Nat → Prop} {W W' : World} {base : Nat} {e : TypeId} {size : Nat} {v : Value} {n : Nat} {xs : List Value} (h : W.ownsRow base e size v n xs) (hm : Mod M W W') (hv : ∀ k, v.ownBlock = some k → ¬ M k) : W'.ownsRow base e size v n xs := by
  have hlt := h.lt
  obtain ⟨h1, h2⟩ := h
  refine ⟨h1, ?_⟩
  rcases h2 with ⟨a, b⟩ | ⟨g, cap, cur, rfl, hb, hh, rest⟩
  · exact .inl ⟨a, b⟩
  · refine .inr ⟨g, cap, cur, rfl, hb, ?_, rest⟩
    have e1 : (Value.slice (some ⟨g, 0, none⟩) n cap).ownBlock = some g := by simp [Value.ownBlock]
    rw [hm.block g (hlt g e1).2 (hv g e1)]
    exact hh

theorem stCell_set {st : List GStep} {d : Nat} (hd : d < st.length) (x : GStep) (j : Nat) :
    stCell (st.set d x) j = if j = d * 4 + 3 then .bool x.fwd else if j = d * 4 + 2 then .int .i64 x.room else if j = d * 4 + 1 then .int .i64 x.dst else if j = d * 4 then .int .i64 x.edge else stCell st j := by
  unfold stCell
  rw [List.getElem?_set]
  by_cases h : d = j / 4
  · rw [if_pos h, if_pos hd]
    simp only [Option.getD_some]
    have h4 : j % 4 = 0 ∨ j % 4 = 1 ∨ j % 4 = 2 ∨ j % 4 = 3 := by omega
    rcases h4 with h4 | h4 | h4 | h4
    · rw [if_pos h4, if_neg (by omega), if_neg (by omega), if_neg (by omega), if_pos (by omega)]
    · rw [if_neg (by omega), if_pos h4, if_neg (by omega), if_neg (by omega), if_pos (by omega)]
    · rw [if_neg (by omega), if_neg (by omega), if_pos h4, if_neg (by omega), if_pos (by omega)]
    · rw [if_neg (by omega), if_neg (by omega), if_neg (by omega), if_pos (by omega)]
  · rw [if_neg h, if_neg (show ¬ j = d * 4 + 3 by omega), if_neg (show ¬ j = d * 4 + 2 by omega), if_neg (show ¬ j = d * 4 + 1 by omega), if_neg (show ¬ j = d * 4 by omega)]

theorem SMem.mark {W : World} {b5 b8 b9 bq gs gb B nn : Nat} {t : Int} {v : Value} {seen : List Bool} {st : List GStep} {xs : List Int} {h : Nat} (m : SMem W b5 b8 b9 bq gs gb B nn t v seen st xs h)
    {d : Nat} (hd : d < nn) (hS : seen.length = nn) (hB : st.length = nn) (xe dd xr : Int) (xf : Bool) {W' : World}
    (hW : (((((W.setCell ⟨gs, d, none⟩ (.bool true)).setCell ⟨gb, d * 4, none⟩ (.int .i64 xe)).setCell ⟨gb, d * 4 + 1, none⟩ (.int .i64 dd)).setCell ⟨gb, d * 4 + 2, none⟩ (.int .i64 xr)).setCell ⟨gb, d * 4 + 3, none⟩ (.bool xf)).drew = W') :
    SMem W' b5 b8 b9 bq gs gb B nn t v (seen.set d true) (st.set d ⟨xe, dd, xr, xf⟩) xs h ∧ Mod (fun k => k = gs ∨ k = gb) W W' := by
  have ngb : gs ≠ gb := m.sn.ne m.by_ (by decide)
  have hm : Mod (fun k => k = gs ∨ k = gb) W W' := by
    rw [← hW]
    exact ((((((Mod.refl _ W).setCell (.inl (.inl rfl)) _).setCell (.inl (.inr rfl)) _).setCell (.inl (.inr rfl)) _).setCell (.inl (.inr rfl)) _).setCell (.inl (.inr rfl)) _).drew
  refine ⟨⟨m.k5.mod hm ?_, m.k8.mod hm ?_, m.k9.mod hm ?_, ?_, ?_, ⟨m.qu.hd.mod hm ?_, ownsRow_mod m.qu.own hm ?_, m.qu.le⟩, m.l5⟩, hm⟩
  · rintro (e | e)
    · exact m.k5.ne m.sn (by decide) e
    · exact m.k5.ne m.by_ (by decide) e
  · rintro (e | e)
    · exact m.k8.ne m.sn (by decide) e
    · exact m.k8.ne m.by_ (by decide) e
  · rintro (e | e)
    · exact m.k9.ne m.sn (by decide) e
    · exact m.k9.ne m.by_ (by decide) e
  · rw [← hW]
    refine ((((((m.sn.set d (.bool true)).other (p := ⟨gb, d * 4, none⟩) ngb _).other (p := ⟨gb, d * 4 + 1, none⟩) ngb _).other (p := ⟨gb, d * 4 + 2, none⟩) ngb _).other (p := ⟨gb, d * 4 + 3, none⟩) ngb _).drew).congr (fun i hi => ?_)
    by_cases e : i = d
    · subst e
      simp [hS, hd]
    · simp [e, Ne.symm e]
  · rw [← hW]
    refine ((((((m.by_.other (p := ⟨gs, d, none⟩) (fun e => ngb e.symm) _).set (d * 4) _).set (d * 4 + 1) _).set (d * 4 + 2) _).set (d * 4 + 3) _).drew).congr (fun i hi => ?_)
    rw [stCell_set (by omega)]
  · rintro (e | e)
    · exact m.qu.hd.ne m.sn (by decide) e
    · exact m.qu.hd.ne m.by_ (by decide) e
  · intro k hk
    rintro (e | e)
    · subst e; exact ownsRow_ne m.qu.own m.sn (by decide) hk
    · subst e; exact ownsRow_ne m.qu.own m.by_ (by decide) hk
theorem keepsFrom_mod {M : Nat → Prop} {W W' : World} (hm : Mod M W W') (B : Nat) (hc : ∀ k, M k → ∀ o, W.heap[k]? = some o → o.isCells = true) : KeepsFrom B W W' :=
  ⟨hm.size, fun k o _ hk ho => by
    have hl : k < W.heap.size := (Array.getElem?_eq_some_iff.1 hk).1
    rw [hm.block k hl (fun hM => by rw [hc k hM o hk] at ho; cases ho)]
    exact hk⟩
theorem Own.cells {w : World} {g : Nat} {t : TypeId} {n : Nat} {f : Nat → Value} (h : Own w g t n f) {o : Obj} (ho : w.heap[g]? = some o) : o.isCells = true := by
  obtain ⟨cs, hb, _⟩ := h
  rw [hb] at ho
  cases ho
  rfl
theorem ownsRow_cells {W : World} {base : Nat} {e : TypeId} {size : Nat} {v : Value} {n : Nat} {xs : List Value} (h : W.ownsRow base e size v n xs) {k : Nat} (hk : v.ownBlock = some k) {o : Obj} (ho : W.heap[k]? = some o) : o.isCells = true := by
  obtain ⟨h1, h2⟩ := h
  rcases h2 with ⟨rfl, b⟩ | ⟨g, cap, cur, rfl, hb, hh, rest⟩
  · simp [Value.ownBlock] at hk
  · simp [Value.ownBlock] at hk
    subst hk
    rw [hh] at ho
    cases ho
    rfl
end Go.Proofs.Ytgfcnkfmgpakkaa
/-
augment, walked: the flow along the way that was found.
-/
namespace Go.Proofs.Ytgfcnkfmgpakkaa
open Go.RowKit
set_option linter.unusedVariables false

/-- What augment reads and writes. -/
structure AugW (b4 gN gF gb nn N c : Nat) (A : Option Addr) (es : List GEdge) (st : List GStep) (fl : List Int) (w : World) : Prop where
  k4 : w.cell? ⟨b4, 0, none⟩ = some (.pointer (some ⟨gN, 0, none⟩))
  n1 : w.cell? ⟨gN, 1, none⟩ = some (.slice A N c)
  n2 : w.cell? ⟨gN, 2, none⟩ = some (.slice (some ⟨gF, 0, none⟩) N N)
  edges : Rd 3 encE w A es
  by_ : Own w gb 122 (nn * 4) (stCell st)
  flow : Own w gF 3 N (fun i => .int .i64 (fAt fl i))
theorem AugW.keep {b4 gN gF gb nn N c : Nat} {A : Option Addr} {es : List GEdge} {st : List GStep} {fl : List Int} {w w' : World} (h : AugW b4 gN gF gb nn N c A es st fl w) (hb : Below w.heap.size w w') : AugW b4 gN gF gb nn N c A es st fl w' :=
  ⟨(hb.cell (World.block_lt_of_cell? w _ h.k4)).trans h.k4, (hb.cell (World.block_lt_of_cell? w _ h.n1)).trans h.n1, (hb.cell (World.block_lt_of_cell? w _ h.n2)).trans h.n2, h.edges.keep hb, h.by_.keep hb h.by_.lt, h.flow.keep hb h.flow.lt⟩
/-- Block gF stands apart. -/
structure Apart (b4 gN gF gb : Nat) (A : Option Addr) : Prop where
  a4 : b4 ≠ gF
  aN : gN ≠ gF
  ab : gb ≠ gF
  aA : ∀ a, A = some a → a.block ≠ gF
theorem AugW.store {b4 gN gF gb nn N c : Nat} {A : Option Addr} {es : List GEdge} {st : List GStep} {fl : List Int} {w : World} (h : AugW b4 gN gF gb nn N c A es st fl w) (hp : Apart b4 gN gF gb A) (hl : fl.length = N) (i : Nat) (hi : i < N) (x : Int) : AugW b4 gN gF gb nn N c A es st (fl.set i x) (w.setCell ⟨gF, i, none⟩ (.int .i64 x)) := by
  have hm : Mod (fun k => k = gF) w (w.setCell ⟨gF, i, none⟩ (.int .i64 x)) := (Mod.refl (fun k => k = gF) w).setCell (p := ⟨gF, i, none⟩) (.inl rfl) _
  refine ⟨(hm.cell (p := ⟨b4, 0, none⟩) (World.block_lt_of_cell? w _ h.k4) hp.a4).trans h.k4, (hm.cell (p := ⟨gN, 1, none⟩) (World.block_lt_of_cell? w _ h.n1) hp.aN).trans h.n1, (hm.cell (p := ⟨gN, 2, none⟩) (World.block_lt_of_cell? w _ h.n2) hp.aN).trans h.n2, h.edges.mod hm (fun a ha _ => hp.aA a ha), h.by_.mod hm hp.ab, ?_⟩
  refine (h.flow.set i _).congr (fun j _ => ?_)
  rw [fAt_set _ _ _ _ (by omega)]
  by_cases e : j = i <;> simp [e]
theorem AugW.drew {b4 gN gF gb nn N c : Nat} {A : Option Addr} {es : List GEdge} {st : List GStep} {fl : List Int} {w : World} (h : AugW b4 gN gF gb nn N c A es st fl w) : AugW b4 gN gF gb nn N c A es st fl w.drew := h.keep (Below.refl _ _).drew
theorem st_cells {st : List GStep} {w : World} {gb nn v : Nat} (h : Own w gb 122 (nn * 4) (stCell st)) (hv : v < nn) :
    w.cell? ⟨gb, v * 4, none⟩ = some (.int .i64 (stAt st v).edge) ∧ w.cell? ⟨gb, v * 4 + 1, none⟩ = some (.int .i64 (stAt st v).dst) ∧ w.cell? ⟨gb, v * 4 + 2, none⟩ = some (.int .i64 (stAt st v).room) ∧ w.cell? ⟨gb, v * 4 + 3, none⟩ = some (.bool (stAt st v).fwd) := by
  have e : ∀ j, j < 4 → (v * 4 + j) / 4 = v ∧ (v * 4 + j) % 4 = j := fun j hj => by omega
  refine ⟨?_, ?_, ?_, ?_⟩
  · rw [h.cell (by omega)]; unfold stCell; rw [show v * 4 % 4 = 0 from by omega, show v * 4 / 4 = v from by omega]; rfl
  · rw [h.cell (by omega)]; unfold stCell; rw [(e 1 (by omega)).1, (e 1 (by omega)).2]; rfl
  · rw [h.cell (by omega)]; unfold stCell; rw [(e 2 (by omega)).1, (e 2 (by omega)).2]; rfl
  · rw [h.cell (by omega)]; unfold stCell; rw [(e 3 (by omega)).1, (e 3 (by omega)).2]; rfl

set_option maxHeartbeats 1000000 in
theorem fFrom_any (b4 gN gF gb nn N c : Nat) (A : Option Addr) (es : List GEdge) (st : List GStep) (fl : List Int) (i : Nat) (d r : Int) (f : Bool) (w : World) (hW : AugW b4 gN gF gb nn N c A es st fl w) (hN : es.length = N) (hi : i < N) :
    Calls Try.prog 100 #[.agg #[.int .i64 i, .int .i64 d, .int .i64 r, .bool f], .pointer (some ⟨b4, 0, none⟩)] w fun e w' => e = .returned (.int .i64 (fromV es ⟨i, d, r, f⟩)) ∧ Below w.heap.size w w' := by
  obtain ⟨b, off, e, rfl, hbl, he, g0, g1, g2⟩ := rdE_at hW.edges (k := i) (by rw [hN]; exact hi)
  have k4 := hW.k4
  have n1 := hW.n1
  have l4 := World.block_lt_of_cell? w _ k4
  have lN := World.block_lt_of_cell? w _ n1
  dsimp only at l4 lN
  have hee : eAt es i = e := by unfold eAt; rw [he]; rfl
  have hiz : (i : Int) < (N : Int) := by omega
  have d4 : b4 ≠ w.heap.size := by omega
  have dN : gN ≠ w.heap.size := by omega
  have db : b ≠ w.heap.size := by omega
  cases f with
  | true =>
    have HF : Hid (fromV es ⟨i, d, r, true⟩ = e.frm) := Lib.hid (by unfold fromV; simp [hee])
    rw [HF.out]
    clear hW hN he hee
    go_enter Try.func100, Try.ntmps100
    go_wp2
    go_quiet (fail)
    go_wp2
    go_ret
    exact ⟨rfl, below_drewN ((Below.refl _ w).alloc (Nat.le_refl _) _) _⟩
  | false =>
    have HF : Hid (fromV es ⟨i, d, r, false⟩ = e.to) := Lib.hid (by unfold fromV; simp [hee])
    rw [HF.out]
    clear hW hN he hee
    go_enter Try.func100, Try.ntmps100
    go_wp2
    go_quiet (fail)
    go_wp2
    go_ret
    exact ⟨rfl, below_drewN ((Below.refl _ w).alloc (Nat.le_refl _) _) _⟩
theorem good_edge {es : List GEdge} {fl : List Int} {u N : Nat} {x : GStep} (h : GoodStep es fl u N x) : ∃ i : Nat, i < N ∧ x.edge = (i : Int) := by
  obtain ⟨i, hi, rfl, _, _⟩ := h
  exact ⟨i, hi, by unfold mkStep; split <;> rfl⟩
theorem below_then' {a b c : World} (h : Below a.heap.size a b) (k : Below b.heap.size b c) : Below a.heap.size a c := h.trans (k.mono h.size)
def AugPost (w : World) (gF N : Nat) (r : Int) (fl : List Int) (e : Ending) (w' : World) : Prop := e = .returned (.int .i64 r) ∧ Own w' gF 3 N (fun i => .int .i64 (fAt fl i)) ∧ Mod (fun k => k = gF) w w'
set_option maxRecDepth 100000 in
set_option maxHeartbeats 4000000 in
theorem fAugment_any (gN gF gb nn N c s t : Nat) (A : Option Addr) (es : List GEdge) (st : List GStep) (fl : List Int) (p : Nat → Nat) (K : Nat) (w : World) (hok : okG nn es = true) (hN : es.length = N) (hlf : fl.length = N) (hf : ∀ i, i < es.length → 0 ≤ fAt fl i ∧ fAt fl i ≤ (eAt es i).cap)
    (n1 : w.cell? ⟨gN, 1, none⟩ = some (.slice A N c)) (n2 : w.cell? ⟨gN, 2, none⟩ = some (.slice (some ⟨gF, 0, none⟩) N N)) (hedges : Rd 3 encE w A es) (hby : Own w gb 122 (nn * 4) (stCell st)) (hflow : Own w gF 3 N (fun i => .int .i64 (fAt fl i)))
    (hap : Apart w.heap.size gN gF gb A) (hway : Way es fl nn N s t st p K) (hs : s < nn) (ht : t < nn) (hst : s ≠ t) :
    Calls Try.prog 86 #[.pointer (some ⟨gN, 0, none⟩), .int .i64 s, .int .i64 t, .slice (some ⟨gb, 0, none⟩) nn nn] w
      (AugPost w gF N (roomTo st p (stAt st t).room K) (flTo fl st p (roomTo st p (stAt st t).room K) K)) := by
  have hmf : ∀ (fn : Fn) (first cap : Array Value) (w : World), (Instr.makeFunc fn first cap).run Try.prog w = .ok (.func fn first cap) w := fun _ _ _ _ => rfl
  have hnn : nn ≤ 64 := by have := (okG_iff.1 hok).1; omega
  have hNN : N ≤ 512 := by have := (okG_iff.1 hok).1; omega
  have rbd : ∀ k, k < K → 0 < (stAt st (p k)).room ∧ (stAt st (p k)).room ≤ 1000000 := by
    intro k hk
    obtain ⟨i, hi, ei, hr, _⟩ := hway.good k hk
    refine ⟨hr, ?_⟩
    have a := okG_at hok (i := i) (by omega)
    have b := hf i (by omega)
    rw [ei]
    unfold mkStep
    split <;> (dsimp only; omega)
  have RBD := Lib.hid rbd
  have hK0 : 0 < K := by
    rcases Nat.eq_zero_or_pos K with h | h
    · have a := hway.p0; have b := hway.pK; rw [h] at b; omega
    · exact h
  clear rbd
  have W0 : AugW w.heap.size gN gF gb nn N c A es st fl (w.alloc (.cells #[.pointer (some ⟨gN, 0, none⟩)] 99)) := by
    have hb : Below w.heap.size w (w.alloc (.cells #[.pointer (some ⟨gN, 0, none⟩)] 99)) := (Below.refl _ w).alloc (Nat.le_refl _) _
    exact ⟨(Own.new w 99 #[.pointer (some ⟨gN, 0, none⟩)] undef).cell (i := 0) (by simp), (hb.cell (World.block_lt_of_cell? w _ n1)).trans n1, (hb.cell (World.block_lt_of_cell? w _ n2)).trans n2, hedges.keep hb, hby.keep hb hby.lt, hflow.keep hb hflow.lt⟩
  have HW := Lib.hid W0
  have HWAY := Lib.hid hway
  have HAP := Lib.hid hap
  have HOK := Lib.hid hok
  have HN := Lib.hid hN
  have HLF := Lib.hid hlf
  have HF := Lib.hid hf
  have htz : (t : Int) < (nn : Int) := by omega
  obtain ⟨_, _, c2, _⟩ := st_cells W0.by_ ht
  have lb := hby.lt
  have db : gb ≠ w.heap.size := by omega
  have P0 := Lib.hid hway.p0
  have PK := Lib.hid hway.pK
  have HB : Hid (Below w.heap.size w (w.alloc (.cells #[.pointer (some ⟨gN, 0, none⟩)] 99))) := Lib.hid ((Below.refl _ w).alloc (Nat.le_refl _) _)
  have hfg : gF < w.heap.size := hflow.lt
  clear W0 hway hap hok hN hlf hf n1 n2 hedges hby hflow
  obtain ⟨b4, hb4⟩ : ∃ b4, b4 = w.heap.size := ⟨_, rfl⟩
  go_enter Try.func86, Try.ntmps86
  go_wp2
  rw [← hb4]
  rw [← hb4] at HW HAP
  have HB4 := Lib.hid hb4
  clear hb4 c2 db
  go_loopg [10, 11] K (fun g1 v10 v11 wr => ∃ k : Nat, v11 = .int .i64 (p k : Int) ∧ v10 = .int .i64 (roomTo st p (stAt st t).room k) ∧ k ≤ K ∧ K - k ≤ g1 ∧ Hid (AugW b4 gN gF gb nn N c A es st fl wr) ∧ Hid (Below w.heap.size w wr))
  case atStart => exact ⟨0, by rw [P0.out], rfl, by omega, by omega, HW, HB⟩
  case round =>
    clear HW HB
    obtain ⟨k, rfl, rfl, hk, hg1, HW, HB⟩ := hrel
    by_cases hkK : k < K
    · have hne : ((p k : Int) != (s : Int)) = true := by rw [bne_iff_ne]; have := HWAY.out.ne k hkK; omega
      have hpk := HWAY.out.lt k (by omega)
      have hpz : ((p k : Nat) : Int) < (nn : Int) := by omega
      obtain ⟨c0, c1, c2, c3⟩ := st_cells HW.out.by_ hpk
      obtain ⟨i, hi, ei⟩ := good_edge (HWAY.out.good k hkK)
      have hfr := from_good (HWAY.out.good k hkK)
      have HR2 : Hid (roomTo st p (stAt st t).room (k + 1) = min (roomTo st p (stAt st t).room k) (stAt st (p k)).room) := Lib.hid rfl
      have HFR : Hid (fromV es ⟨(i : Int), (stAt st (p k)).dst, (stAt st (p k)).room, (stAt st (p k)).fwd⟩ = (p (k + 1) : Nat)) := Lib.hid (by rw [← ei]; exact hfr)
      rw [ei] at c0
      generalize roomTo st p (stAt st t).room k = rk at *
      generalize (stAt st (p k)).dst = xd at *
      generalize (stAt st (p k)).room = xr at *
      generalize (stAt st (p k)).fwd = xf at *
      clear ei hfr
      generalize hq : p k = q at *
      clear hq
      by_cases hmin : xr < rk
      · go_wp2_with fail
        refine (fFrom_any b4 gN gF gb nn N c A es st fl i xd xr xf _ HW.out HN.out hi).mono ?_
        rintro e w1 ⟨rfl, hb1⟩
        rw [HFR.out]
        have HW1 := Lib.hid (HW.out.keep hb1)
        have HB1 := Lib.hid (below_then' HB.out hb1)
        clear c0 c1 c2 c3 hb1 HW HB
        go_wp2
        go_roundg (K - (k + 1))
        case measure => omega
        case rel => exact ⟨k + 1, rfl, by rw [HR2.out]; congr 1; omega, by omega, by omega, HW1, HB1⟩
      · go_wp2_with fail
        refine (fFrom_any b4 gN gF gb nn N c A es st fl i xd xr xf _ HW.out HN.out hi).mono ?_
        rintro e w1 ⟨rfl, hb1⟩
        rw [HFR.out]
        have HW1 := Lib.hid (HW.out.keep hb1)
        have HB1 := Lib.hid (below_then' HB.out hb1)
        clear c0 c1 c2 c3 hb1 HW HB
        go_wp2
        go_roundg (K - (k + 1))
        case measure => omega
        case rel => exact ⟨k + 1, rfl, by rw [HR2.out]; congr 1; omega, by omega, by omega, HW1, HB1⟩
    · have hkK' : k = K := by omega
      have hne : ((p k : Int) != (s : Int)) = false := by rw [hkK', PK.out]; simp
      subst hkK'
      have hr0 : 0 < roomTo st p (stAt st t).room k := by
        refine roomTo_pos ?_ (fun j hj => (RBD.out j hj).1)
        have := (RBD.out 0 hK0).1
        rw [P0.out] at this
        exact this
      have hpart := Lib.hid (fun j (hj : j ≤ k) => part_all HOK.out HN.out HLF.out HF.out HWAY.out hr0 (fun i hi => roomTo_le hi) j hj)
      have hr1 : roomTo st p (stAt st t).room k ≤ 1000000 := Int.le_trans (roomTo_le hK0) (RBD.out 0 hK0).2
      obtain ⟨r, hr⟩ : ∃ r, r = roomTo st p (stAt st t).room k := ⟨_, rfl⟩
      rw [← hr] at hr0 hr1 hpart
      have HRM := Lib.hid (fun j (hj : j < k) => (show r ≤ (stAt st (p j)).room from by rw [hr]; exact roomTo_le hj))
      have hpost : AugPost w gF N (roomTo st p (stAt st t).room k) (flTo fl st p (roomTo st p (stAt st t).room k) k) = AugPost w gF N r (flTo fl st p r k) := by rw [← hr]
      have HRR := Lib.hid hr
      rw [← hr]
      clear hpost hr
      go_wp2
      go_loopg [12] k (fun g1 v12 wr => ∃ j : Nat, v12 = .int .i64 (p j : Int) ∧ j ≤ k ∧ k - j ≤ g1 ∧ Hid (AugW b4 gN gF gb nn N c A es st (flTo fl st p r j) wr) ∧ Hid (Mod (fun b => b = gF) w wr))
      case atStart => exact ⟨0, by rw [P0.out], by omega, by omega, HW, Lib.hid ((Mod.of_below HB.out).mono (fun k hk hx => by omega))⟩
      case round =>
        clear HW HB
        obtain ⟨j, rfl, hj, hg2, HW, HM⟩ := hrel
        by_cases hjk : j < k
        · have hne2 : ((p j : Int) != (s : Int)) = true := by rw [bne_iff_ne]; have := HWAY.out.ne j hjk; omega
          have hpk := HWAY.out.lt j (by omega)
          have hpz : ((p j : Nat) : Int) < (nn : Int) := by omega
          obtain ⟨i, hi, ei⟩ := good_edge (HWAY.out.good j hjk)
          have hfr := from_good (HWAY.out.good j hjk)
          have hP := hpart.out j (by omega)
          have hsm := hP.same j (Nat.le_refl _) hjk
          have hft := hP.fits i (by rw [HN.out]; exact hi)
          have hcp := okG_at HOK.out (i := i) (by rw [HN.out]; exact hi)
          have HFR : Hid (fromV es ⟨(i : Int), (stAt st (p j)).dst, (stAt st (p j)).room, (stAt st (p j)).fwd⟩ = (p (j + 1) : Nat)) := Lib.hid (by rw [← ei]; exact hfr)
          have HLJ : Hid ((flTo fl st p r j).length = N) := Lib.hid (by rw [flTo_length]; exact HLF.out)
          have cf := HW.out.flow.cell hi
          have ff' := HW.out.flow.frozen i
          have k4 := HW.out.k4
          have n2 := HW.out.n2
          have hiz : (i : Int) < (N : Int) := by omega
          have f0 : 0 ≤ fAt (flTo fl st p r j) i := hft.1
          have f1 : fAt (flTo fl st p r j) i ≤ 1000000 := by have := hft.2; omega
          obtain ⟨ff, hff⟩ : ∃ ff, ff = fAt (flTo fl st p r j) i := ⟨_, rfl⟩
          rw [← hff] at cf f0 f1
          have hW1 : AugW b4 gN gF gb nn N c A es st (flTo fl st p r j) wr := HW.out
          have HFS : Hid (flTo fl st p r (j + 1) = (flTo fl st p r j).set i (if (stAt st (p j)).fwd then ff + r else ff - r)) := Lib.hid (by simp only [flTo]; rw [ei, Int.toNat_natCast, ← hff])
          obtain ⟨q, hq⟩ : ∃ q, q = p j := ⟨_, rfl⟩
          have HQ : Hid (∀ W' : World, Own W' gb 122 (nn * 4) (stCell st) → W'.cell? ⟨gb, q * 4, none⟩ = some (.int .i64 i) ∧ W'.cell? ⟨gb, q * 4 + 1, none⟩ = some (.int .i64 (stAt st (p j)).dst) ∧ W'.cell? ⟨gb, q * 4 + 2, none⟩ = some (.int .i64 (stAt st (p j)).room) ∧ W'.cell? ⟨gb, q * 4 + 3, none⟩ = some (.bool (stAt st (p j)).fwd)) := Lib.hid (fun W' h => by rw [hq, ← ei]; exact st_cells h hpk)
          obtain ⟨c0, c1, c2, c3⟩ := HQ.out wr HW.out.by_
          rw [← hq] at hpz hpk hne2 ⊢
          clear hq hff ei hfr hP hsm hft hcp hW1
          generalize (stAt st (p j)).dst = xd at *
          generalize (stAt st (p j)).room = xr at *
          generalize (stAt st (p j)).fwd = xf at *
          cases xf with
          | true =>
            have HFL : Hid (flTo fl st p r (j + 1) = (flTo fl st p r j).set i (ff + r)) := HFS
            have HW2 := Lib.hid ((HW.out.store HAP.out HLJ.out i hi (ff + r)).drew)
            have HM2 : Hid (Mod (fun b => b = gF) w (wr.setCell ⟨gF, i, none⟩ (.int .i64 (ff + r))).drew) := Lib.hid ((HM.out.setCell (p := ⟨gF, i, none⟩) (.inl rfl) _).drew)
            go_wp2_with fail
            go_big_region
            clear c0 c1 c2 c3 k4 n2 cf ff' HW HM
            generalize (wr.setCell ⟨gF, i, none⟩ (.int .i64 (ff + r))).drew = w2 at HW2 HM2 ⊢
            obtain ⟨c0, c1, c2, c3⟩ := HQ.out w2 HW2.out.by_
            go_wp2_with fail
            refine (fFrom_any b4 gN gF gb nn N c A es st _ i xd xr true _ HW2.out HN.out hi).mono ?_
            rintro e w3 ⟨rfl, hb3⟩
            rw [HFR.out]
            have HW3 : Hid (AugW b4 gN gF gb nn N c A es st (flTo fl st p r (j + 1)) w3) := Lib.hid (by rw [HFL.out]; exact HW2.out.keep hb3)
            have HM3 : Hid (Mod (fun b => b = gF) w w3) := Lib.hid (HM2.out.trans ((Mod.of_below hb3).mono (fun b hb1 hb2 => by omega)))
            clear c0 c1 c2 c3 hb3 HW2 HM2
            go_wp2
            go_roundg (k - (j + 1))
            case measure => omega
            case rel => exact ⟨j + 1, rfl, by omega, by omega, HW3, HM3⟩
          | false =>
            have HFL : Hid (flTo fl st p r (j + 1) = (flTo fl st p r j).set i (ff - r)) := HFS
            have HW2 := Lib.hid ((HW.out.store HAP.out HLJ.out i hi (ff - r)).drew)
            have HM2 : Hid (Mod (fun b => b = gF) w (wr.setCell ⟨gF, i, none⟩ (.int .i64 (ff - r))).drew) := Lib.hid ((HM.out.setCell (p := ⟨gF, i, none⟩) (.inl rfl) _).drew)
            go_wp2_with fail
            go_big_region
            clear c0 c1 c2 c3 k4 n2 cf ff' HW HM
            generalize (wr.setCell ⟨gF, i, none⟩ (.int .i64 (ff - r))).drew = w2 at HW2 HM2 ⊢
            obtain ⟨c0, c1, c2, c3⟩ := HQ.out w2 HW2.out.by_
            go_wp2_with fail
            refine (fFrom_any b4 gN gF gb nn N c A es st _ i xd xr false _ HW2.out HN.out hi).mono ?_
            rintro e w3 ⟨rfl, hb3⟩
            rw [HFR.out]
            have HW3 : Hid (AugW b4 gN gF gb nn N c A es st (flTo fl st p r (j + 1)) w3) := Lib.hid (by rw [HFL.out]; exact HW2.out.keep hb3)
            have HM3 : Hid (Mod (fun b => b = gF) w w3) := Lib.hid (HM2.out.trans ((Mod.of_below hb3).mono (fun b hb1 hb2 => by omega)))
            clear c0 c1 c2 c3 hb3 HW2 HM2
            go_wp2
            go_roundg (k - (j + 1))
            case measure => omega
            case rel => exact ⟨j + 1, rfl, by omega, by omega, HW3, HM3⟩
        · obtain rfl : k = j := by omega
          have hne2 : ((p k : Int) != (s : Int)) = false := by rw [PK.out]; simp
          go_wp2
          go_ret
          rw [← HRR.out]
          exact ⟨rfl, HW.out.flow, HM.out⟩
end Go.Proofs.Ytgfcnkfmgpakkaa
/-
The network in memory: read by the search, kept by calls, changed by an augmentation.
-/
namespace Go.Proofs.Ytgfcnkfmgpakkaa
open Go.RowKit Go.Shelf

theorem Net.rd {w : World} {gN gF gA base nn N c : Nat} {A : Option Addr} {es : List GEdge} {fl : List Int} (h : Net w gN gF gA base nn A N c es fl) (hR : Rd 3 encE w A es) (hl : es.length = N) (hok : okG nn es = true) (hf : ∀ i, i < N → 0 ≤ fAt fl i ∧ fAt fl i ≤ (eAt es i).cap) : NetRd w gN gF gA nn N c A es fl := by
  obtain ⟨vs, v1, v2, v3, v4⟩ := h.rows
  refine ⟨h.hd.cell (i := 0) (by omega), h.hd.cell (i := 1) (by omega), h.hd.cell (i := 2) (by omega), h.hd.cell (i := 3) (by omega), fun i hi => h.flow.cell hi, fun u hu => ?_, hR, hl, hok, hf⟩
  obtain ⟨Au, cu, e, hr⟩ := ownsRow_rd (v3 u hu)
  exact ⟨Au, cu, by rw [v1.cell hu, e], hr⟩
theorem Net.mod {M : Nat → Prop} {w w' : World} {gN gF gA base nn N c : Nat} {A : Option Addr} {es : List GEdge} {fl fl' : List Int} (h : Net w gN gF gA base nn A N c es fl) (hm : Mod M w w') (hM : ∀ k, k < w.heap.size → M k → k = gF) (hF : Own w' gF 3 N (fun i => .int .i64 (fAt fl' i))) (hl : fl'.length = N) : Net w' gN gF gA base nn A N c es fl' := by
  obtain ⟨vs, v1, v2, v3, v4⟩ := h.rows
  have nN : gN ≠ gF := h.hd.ne h.flow (by decide)
  have nA : gA ≠ gF := v1.ne h.flow (by decide)
  refine ⟨h.hd.mod hm (fun x => nN (hM _ h.hd.lt x)), hF, ⟨vs, v1.mod hm (fun x => nA (hM _ v1.lt x)), v2, fun u hu => ownsRow_mod (v3 u hu) hm (fun k hk x => ?_), v4⟩, h.ltN, h.ltF, Nat.le_trans h.ltB hm.size, hl⟩
  have h1 := (v3 u hu).lt k hk
  have h2 := hM k h1.2 x
  have h3 := h.ltF
  omega
theorem Net.below {w w' : World} {gN gF gA base nn N c : Nat} {A : Option Addr} {es : List GEdge} {fl : List Int} (h : Net w gN gF gA base nn A N c es fl) (hb : Below w.heap.size w w') : Net w' gN gF gA base nn A N c es fl :=
  h.mod (Mod.of_below hb) (fun k hk x => absurd x (by omega)) (h.flow.keep hb h.flow.lt) h.len
end Go.Proofs.Ytgfcnkfmgpakkaa
