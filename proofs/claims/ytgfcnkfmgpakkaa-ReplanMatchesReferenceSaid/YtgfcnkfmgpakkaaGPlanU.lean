/-
Several texts in one: PlanU, PlanU2, PlanY.
-/
import Derived.Test.YtgfcnkfmgpakkaaGPlanB
import Derived.Test.YtgfcnkfmgpakkaaGPlanS
import Derived.Test.YtgfcnkfmgpakkaaGAppE
import Derived.Test.YtgfcnkfmgpakkaaGBase
import Derived.Test.YtgfcnkfmgpakkaaGPlanC
/-
The memory of plan.Schedule while its graph grows.
-/
namespace Go.Proofs.Ytgfcnkfmgpakkaa
open Go.RowKit Go.Shelf
set_option linter.unusedVariables false
/-- A loop over the slots of a job whose body never leaves it; the body's frame is the frame of the loop. -/
theorem range_slots2 {j : GJob} (q0 : 0 ≤ j.frm) (q1 : j.frm ≤ j.till) (q2 : j.till ≤ 24) {g : Operand} {p : Tmp} (q : Tmp) {assign body : Code} {Q : Exit → Act → World → Prop} {a : Act} {w : World} (b1 B : Nat)
    (hg : a.eval g = .func (.func 82) #[] #[.pointer (some ⟨b1, 0, none⟩)]) (hb0 : w.cell? ⟨b1, 0, none⟩ = some (.int .i64 j.frm)) (hb1 : w.cell? ⟨b1, 1, none⟩ = some (.int .i64 j.till)) (hB : B ≤ w.heap.size)
    (I : List (SlotAt j) → World → Prop) (hI : ∀ pre W W', I pre W → Nc w.heap.size W W' → I pre W') (h0 : I [] w)
    (hassign : ∀ (l : Nat) (x : SlotAt j) (W : World) (K : Act → World → Prop), K ⟨(a.tmps.setIfInBounds p (.int .i64 (x.1 : Nat))).setIfInBounds q (.int .i64 (x.1 : Nat)), []⟩ W → assign.wpIn (Fence.wide.inRound l) 3 Try.prog (Exit.then K (fun _ _ _ => False)) ⟨a.tmps.setIfInBounds p (.int .i64 (x.1 : Nat)), []⟩ W)
    (hbody : ∀ (l : Nat) (pre : List (SlotAt j)) (x : SlotAt j) (W : World), I pre W → pre.length < lenJ j → body.wpIn (Fence.wide.inRound l) 3 Try.prog (fun e _ W' => e = .normal ∧ KeepsFrom w.heap.size W W' ∧ KpJ B b1 W W' ∧ I (pre ++ [x]) W') ⟨(a.tmps.setIfInBounds p (.int .i64 (x.1 : Nat))).setIfInBounds q (.int .i64 (x.1 : Nat)), []⟩ W)
    (hdone : ∀ (D : Nat) (ys : List (SlotAt j)) (W : World), w.heap.size ≤ D → ys.map (·.1) = slotsTo j (lenJ j) → I ys W → W.heap[D]? = some (.deferred (some [])) → Q .normal { a with defers := { target := .collected D, args := #[] } :: a.defers } W) :
    (Code.rangeFunc g #[p] assign body).wp Try.prog Q a w :=
  range_slots q0 q1 q2 b1 B hg hb0 hb1 hB I hI h0 (fun x a' => a' = ⟨(a.tmps.setIfInBounds p (.int .i64 (x.1 : Nat))).setIfInBounds q (.int .i64 (x.1 : Nat)), []⟩)
    (fun l x W K hK => hassign l x W K (hK _ rfl)) (fun l pre x a' W hi ha hl => by subst ha; exact hbody l pre x W hi hl) hdone
def loopOf (n : Nat) : Code → Option Code
  | .loop c => if (findRegion n c).isSome then some c else none
  | .seq a b => match loopOf n a with
    | some c => some c
    | none => loopOf n b
  | .block _ c => loopOf n c
  | .scope c => loopOf n c
  | .cond _ a b => match loopOf n a with
    | some c => some c
    | none => loopOf n b
  | _ => none
def gcell (nn : Nat) (v : Value) : Nat → Value := fun i => if i = 0 then .int .i64 nn else v
structure SCm (w W : World) (A : Option Addr) (c N bi nn : Nat) (v : Value) (es : List GEdge) : Prop where
  k0 : W.cell? ⟨w.heap.size, 0, none⟩ = some (.slice A N c)
  o5 : Own W (w.heap.size + 1) 30 2 (fun _ => .slice none 0 0)
  k9 : W.cell? ⟨bi, 0, none⟩ = some (.func (.func 51) #[] #[])
  k10 : W.cell? ⟨bi + 1, 0, none⟩ = some (.func (.func 52) #[] #[.pointer (some ⟨w.heap.size, 0, none⟩)])
  og : Own W (bi + 2) 68 2 (gcell nn v)
  oe : OwnE W (bi + 3) v es
  bel : Below w.heap.size w W
  bb : w.heap.size + 1 < bi
section
variable {w W W' : World} {A : Option Addr} {c N bi nn : Nat} {v : Value} {es : List GEdge}
theorem SCm.keep (h : SCm w W A c N bi nn v es) (hb : Below W.heap.size W W') : SCm w W' A c N bi nn v es :=
  have cl : ∀ {p : Addr} {v : Value}, W.cell? p = some v → W'.cell? p = some v := fun {p v} hp => (hb.cell (World.block_lt_of_cell? W p hp)).trans hp
  ⟨cl h.k0, h.o5.keep hb h.o5.lt, cl h.k9, cl h.k10, h.og.keep hb h.og.lt, h.oe.keep hb, below_then h.bel hb, h.bb⟩
theorem SCm.nc {m0 : Nat} (h : SCm w W A c N bi nn v es) (hn : Nc m0 W W') (hw : w.heap.size ≤ m0) : SCm w W' A c N bi nn v es :=
  ⟨cell_nc h.k0 hn, h.o5.nc hn, cell_nc h.k9 hn, cell_nc h.k10 hn, h.og.nc hn, ownsRow_nc h.oe hn, below_nc h.bel (Nat.le_refl _) hn hw, h.bb⟩
theorem SCm.own_ge (h : SCm w W A c N bi nn v es) {q : Nat} (hq : v.ownBlock = some q) : bi + 3 ≤ q ∧ q < W.heap.size := World.ownsRow.lt h.oe q hq
theorem SCm.size (h : SCm w W A c N bi nn v es) : bi + 2 < W.heap.size := h.og.lt
theorem SCm.cells (h : SCm w W A c N bi nn v es) {q : Nat} (hq : v.ownBlock = some q ∨ q = bi + 2) {o : Obj} (ho : W.heap[q]? = some o) : o.isCells = true := by
  rcases hq with hq | rfl
  · rcases h.oe.2 with ⟨rfl, _⟩ | ⟨g, cap, cur, rfl, _, hg, _⟩
    · cases hq
    · have e : g = q := Option.some.inj hq
      subst e
      rw [hg] at ho
      cases ho
      rfl
  · exact h.og.cells ho
theorem SCm.push (h : SCm w W A c N bi nn v es) (f t cp : Int) (hl : es.length ≤ 1000000) :
    Appends Try.prog (W.alloc (.cells #[.int .i64 f, .int .i64 t, .int .i64 cp] 70)).drew 66 66 v (.slice (some ⟨W.heap.size, 0, none⟩) 1 1) ∧
    ∃ a' l' c' w1, appV Try.prog (W.alloc (.cells #[.int .i64 f, .int .i64 t, .int .i64 cp] 70)).drew 66 66 v (.slice (some ⟨W.heap.size, 0, none⟩) 1 1) = .slice a' l' c' ∧
      appW Try.prog (W.alloc (.cells #[.int .i64 f, .int .i64 t, .int .i64 cp] 70)).drew 66 66 v (.slice (some ⟨W.heap.size, 0, none⟩) 1 1) = w1 ∧
      w1.cell? ⟨bi + 2, 1, none⟩ = some v ∧ w1.frozen? ⟨bi + 2, 1, none⟩ = false ∧
      Hid (∀ (p : Addr) (u : Value), W.cell? p = some u → v.ownBlock ≠ some p.block → w1.cell? p = some u) ∧
      Hid (SCm w (w1.setCell ⟨bi + 2, 1, none⟩ (.slice a' l' c')) A c N bi nn (.slice a' l' c') (es ++ [⟨f, t, cp⟩])) ∧ Hid (Mod (fun q => v.ownBlock = some q ∨ q = bi + 2) W (w1.setCell ⟨bi + 2, 1, none⟩ (.slice a' l' c'))) ∧
      Hid ((Value.slice a' l' c').ownBlock = v.ownBlock ∨ (Value.slice a' l' c').ownBlock = some (W.heap.size + 1)) := by
  have hsz := h.size
  have hoe : OwnE W.drew (bi + 3) v es := h.oe
  obtain ⟨ap, v', w1, av, aw, hown, hmod, hob⟩ := app_edge (w := W.drew) f t cp hoe (by show bi + 3 ≤ W.heap.size; omega) hl
  obtain ⟨a', c', e'⟩ := hown.shape
  generalize (es ++ [(⟨f, t, cp⟩ : GEdge)]).length = l' at e'
  subst e'
  have hmod' : Mod (fun q => v.ownBlock = some q) W w1 := ⟨hmod.os, hmod.tape, hmod.output, hmod.size, hmod.block⟩
  have bb := h.bb
  have hne : ∀ q, q < bi + 3 → ¬ v.ownBlock = some q := fun q hq e => by have := (h.own_ge e).1; omega
  have far : ∀ (p : Addr) (u : Value), W.cell? p = some u → v.ownBlock ≠ some p.block → w1.cell? p = some u := fun p u hp hn => (hmod'.cell (World.block_lt_of_cell? W p hp) hn).trans hp
  have og1 := h.og.mod hmod' (hne _ (by omega))
  have hM : Mod (fun q => v.ownBlock = some q ∨ q = bi + 2) W (w1.setCell ⟨bi + 2, 1, none⟩ (.slice a' l' c')) := (hmod'.mono (fun k _ hk => .inl hk)).setCell (p := ⟨bi + 2, 1, none⟩) (.inl (.inr rfl)) _
  have hs1 : (w1.setCell ⟨bi + 2, 1, none⟩ (.slice a' l' c')).heap.size = w1.heap.size := by simp [World.setCell]
  refine ⟨ap, a', l', c', w1, av, aw, ?_, og1.frozen 1, Lib.hid far, Lib.hid ?_, Lib.hid hM, Lib.hid hob⟩
  · have := og1.cell (i := 1) (by omega)
    simpa [gcell] using this
  · have hne2 : ∀ q, q < bi + 2 → ¬ (v.ownBlock = some q ∨ q = bi + 2) := fun q hq e => by
      rcases e with e | e
      · exact hne q (by omega) e
      · omega
    have l0 := World.block_lt_of_cell? W _ h.k0
    have l9 := World.block_lt_of_cell? W _ h.k9
    have l10 := World.block_lt_of_cell? W _ h.k10
    refine ⟨(hM.cell l0 (hne2 _ (by dsimp only; omega))).trans h.k0, h.o5.mod hM (hne2 _ (by omega)), (hM.cell l9 (hne2 _ (by dsimp only; omega))).trans h.k9, (hM.cell l10 (hne2 _ (by dsimp only; omega))).trans h.k10, ?_, ?_, ?_, bb⟩
    · refine (og1.set 1 (.slice a' l' c')).congr (fun i hi => ?_)
      unfold gcell
      rcases i with _ | _ | i
      · simp
      · simp
      · omega
    · refine OwnR.mod hown ((Mod.refl (fun q => q = bi + 2) w1).setCell (p := ⟨bi + 2, 1, none⟩) (.inl rfl) _) (fun k hk e => ?_)
      have := (World.ownsRow.lt hown k hk).1
      omega
    · refine h.bel.trans (hM.below h.bel.size (fun k hk hq => ?_))
      rcases hq with hq | hq
      · have := (h.own_ge hq).1; omega
      · omega
end
end Go.Proofs.Ytgfcnkfmgpakkaa
/-
The memory of plan.Schedule while its plan is written.
-/
namespace Go.Proofs.Ytgfcnkfmgpakkaa
open Go.RowKit Go.Shelf
set_option linter.unusedVariables false
/-- What lies at place t, if the values g 0, g 1, .. were laid at the places of the list, in order. -/
def laidR (g : Nat → Int) : List Nat → Nat → Int
  | [], _ => 0
  | x :: r, t => if t = x then g r.length else laidR g r t
def laid (g : Nat → Int) (l : List Nat) (t : Nat) : Int := laidR g l.reverse t
theorem laid_nil (g : Nat → Int) (t : Nat) : laid g [] t = 0 := rfl
theorem laid_snoc (g : Nat → Int) (l : List Nat) (x t : Nat) : laid g (l ++ [x]) t = if t = x then g l.length else laid g l t := by
  unfold laid
  rw [List.reverse_append]
  simp [laidR]
theorem laid_slots (g : Nat → Int) (j : GJob) (m t : Nat) : laid g (slotsTo j m) t = if j.frm.toNat ≤ t ∧ t < j.frm.toNat + m then g (t - j.frm.toNat) else 0 := by
  induction m with
  | zero =>
    rw [if_neg (by omega)]
    rfl
  | succ m ih =>
    unfold slotsTo at *
    rw [mk_succ, laid_snoc, mk_len, ih]
    by_cases e : t = j.frm.toNat + m
    · subst e
      rw [if_pos rfl, if_pos (by omega), Nat.add_sub_cancel_left]
    · rw [if_neg e]
      by_cases c : j.frm.toNat ≤ t ∧ t < j.frm.toNat + m
      · rw [if_pos c, if_pos (by omega)]
      · rw [if_neg c, if_neg (by omega)]
def matC (T : Nat) (h : Nat → Nat → Int) (idx : Nat) : Value := .int .i64 (h (idx / T) (idx % T))
structure SPm (w W : World) (A : Option Addr) (c N T bp gt ga gF M : Nat) (fl : List Int) (h : Nat → Nat → Int) (rest : Nat) : Prop where
  k0 : W.cell? ⟨w.heap.size, 0, none⟩ = some (.slice A N c)
  o5 : Own W (w.heap.size + 1) 30 2 (fun _ => .slice none 0 0)
  k25 : W.cell? ⟨bp, 0, none⟩ = some (.slice (some ⟨gt, 0, none⟩) N N)
  o26 : ∃ ad, Own W (bp + 1) 23 1 (fun _ => .slice ad rest rest) ∧ (0 < rest → ad = some ⟨gF, M - rest, none⟩)
  ot : Own W gt 23 N (fun i => .slice (some ⟨ga, i * T, none⟩) T T)
  oa : Own W ga 3 (N * T) (matC T h)
  rf : Rd 1 encI W (some ⟨gF, 0, none⟩) fl
  bel : Below w.heap.size w W
  b1 : w.heap.size + 1 < gt
  b2 : w.heap.size + 1 < ga
  b3 : 0 < fl.length → gF < gt ∧ gF < ga
  b4 : gt < bp
  b5 : ga < bp
  b6 : ga ≠ gt
section
variable {w W W' : World} {A : Option Addr} {c N T bp gt ga gF M : Nat} {fl : List Int} {h : Nat → Nat → Int} {rest : Nat}
theorem Rd.nc {α : Type} {sz : Nat} {enc : α → List Value} {xs : List α} {B : Nat} (hr : Rd sz enc W A xs) (hn : Nc B W W') : Rd sz enc W' A xs := by
  intro h0
  obtain ⟨b, off, hA, hlt, hc⟩ := hr h0
  refine ⟨b, off, hA, ?_, fun k x hx j v hv => cell_nc (hc k x hx j v hv) hn⟩
  obtain ⟨row, hg, _⟩ := hn
  exact Nat.lt_of_lt_of_le hlt hg.size
theorem SPm.keep (m : SPm w W A c N T bp gt ga gF M fl h rest) (hb : Below W.heap.size W W') : SPm w W' A c N T bp gt ga gF M fl h rest :=
  have cl : ∀ {p : Addr} {v : Value}, W.cell? p = some v → W'.cell? p = some v := fun {p v} hp => (hb.cell (World.block_lt_of_cell? W p hp)).trans hp
  ⟨cl m.k0, m.o5.keep hb m.o5.lt, cl m.k25, let ⟨ad, o, e⟩ := m.o26; ⟨ad, o.keep hb o.lt, e⟩, m.ot.keep hb m.ot.lt, m.oa.keep hb m.oa.lt, m.rf.keep hb, below_then m.bel hb, m.b1, m.b2, m.b3, m.b4, m.b5, m.b6⟩
theorem SPm.nc {m0 : Nat} (m : SPm w W A c N T bp gt ga gF M fl h rest) (hn : Nc m0 W W') (hw : w.heap.size ≤ m0) : SPm w W' A c N T bp gt ga gF M fl h rest :=
  ⟨cell_nc m.k0 hn, m.o5.nc hn, cell_nc m.k25 hn, let ⟨ad, o, e⟩ := m.o26; ⟨ad, o.nc hn, e⟩, m.ot.nc hn, m.oa.nc hn, m.rf.nc hn, below_nc m.bel (Nat.le_refl _) hn hw, m.b1, m.b2, m.b3, m.b4, m.b5, m.b6⟩
theorem SPm.congr (m : SPm w W A c N T bp gt ga gF M fl h rest) {h' : Nat → Nat → Int} (e : ∀ i t, i < N → t < T → h i t = h' i t) : SPm w W A c N T bp gt ga gF M fl h' rest := by
  refine ⟨m.k0, m.o5, m.k25, m.o26, m.ot, m.oa.congr (fun idx hi => ?_), m.rf, m.bel, m.b1, m.b2, m.b3, m.b4, m.b5, m.b6⟩
  have hT : 0 < T := Nat.pos_of_ne_zero (fun z => by subst z; simp at hi)
  unfold matC
  rw [e _ _ ((Nat.div_lt_iff_lt_mul hT).2 hi) (Nat.mod_lt _ hT)]
/-- One place is written, and what is used goes on. -/
theorem SPm.put (m : SPm w W A c N T bp gt ga gF M fl h rest) (k t : Nat) (hk : k < N) (ht : t < T) (x : Int) (ad' : Option Addr) (r' : Nat) (had : 0 < r' → ad' = some ⟨gF, M - r', none⟩) :
    SPm w ((W.setCell ⟨ga, k * T + t, none⟩ (.int .i64 x)).setCell ⟨bp + 1, 0, none⟩ (.slice ad' r' r')).drew A c N T bp gt ga gF M fl (fun i s => if i = k ∧ s = t then x else h i s) r' ∧
    Mod (fun q => q = ga ∨ q = bp + 1) W ((W.setCell ⟨ga, k * T + t, none⟩ (.int .i64 x)).setCell ⟨bp + 1, 0, none⟩ (.slice ad' r' r')).drew := by
  obtain ⟨ad, o26, _⟩ := m.o26
  have b1 := m.b1
  have b2 := m.b2
  have b3 := m.b3
  have b4 := m.b4
  have b5 := m.b5
  have b6 := m.b6
  have hM : Mod (fun q => q = ga ∨ q = bp + 1) W ((W.setCell ⟨ga, k * T + t, none⟩ (.int .i64 x)).setCell ⟨bp + 1, 0, none⟩ (.slice ad' r' r')).drew :=
    (((Mod.refl _ W).setCell (p := ⟨ga, k * T + t, none⟩) (.inl (.inl rfl)) _).setCell (p := ⟨bp + 1, 0, none⟩) (.inl (.inr rfl)) _).drew
  have far : ∀ (p : Addr) (v : Value), W.cell? p = some v → p.block ≠ ga → p.block ≠ bp + 1 → ((W.setCell ⟨ga, k * T + t, none⟩ (.int .i64 x)).setCell ⟨bp + 1, 0, none⟩ (.slice ad' r' r')).drew.cell? p = some v :=
    fun p v hp h1 h2 => (hM.cell (World.block_lt_of_cell? W p hp) (fun e => by rcases e with e | e; exact h1 e; exact h2 e)).trans hp
  have hT : 0 < T := by omega
  refine ⟨⟨far _ _ m.k0 (by dsimp only; omega) (by dsimp only; omega), m.o5.mod hM (by omega), far _ _ m.k25 (by dsimp only; omega) (by dsimp only; omega), ⟨ad', ?_, had⟩, m.ot.mod hM (by omega), ?_, m.rf.mod hM (fun a ha h0 => by injection ha with ha; rw [← ha]; have := b3 h0; dsimp only; omega), m.bel.trans (hM.below m.bel.size (fun q _ hq => by omega)), b1, b2, b3, b4, b5, b6⟩, hM⟩
  · exact ((o26.other (p := ⟨ga, k * T + t, none⟩) (by dsimp only; omega) _).set 0 _).congr (fun i hi => by simp [show i = 0 by omega])
  · refine ((m.oa.set (k * T + t) _).other (p := ⟨bp + 1, 0, none⟩) (by dsimp only; omega) _).congr (fun idx hi => ?_)
    unfold matC
    by_cases e : idx = k * T + t
    · subst e
      have e1 : (k * T + t) / T = k := by rw [Nat.mul_comm, Nat.mul_add_div hT, Nat.div_eq_of_lt ht, Nat.add_zero]
      have e2 : (k * T + t) % T = t := by rw [Nat.mul_comm, Nat.mul_add_mod, Nat.mod_eq_of_lt ht]
      rw [if_pos rfl]
      dsimp only
      rw [if_pos ⟨e1, e2⟩]
    · rw [if_neg e]
      dsimp only
      rw [if_neg]
      rintro ⟨e1, e2⟩
      apply e
      rw [← e1, ← e2, Nat.mul_comm]
      exact (Nat.div_add_mod idx T).symm
end
end Go.Proofs.Ytgfcnkfmgpakkaa
/-
What the end of plan.Schedule needs: the cut of a side, the plan of a flow, as they are read.
-/
namespace Go.Proofs.Ytgfcnkfmgpakkaa
open Go.RowKit Go.Shelf
set_option linter.unusedVariables false
theorem fAt_app1 {xs ys : List Int} {i : Nat} (h : i < xs.length) : fAt (xs ++ ys) i = fAt xs i := by unfold fAt; rw [List.getElem?_append_left h]
theorem fAt_last (xs : List Int) (x : Int) : fAt (xs ++ [x]) xs.length = x := by unfold fAt; rw [List.getElem?_append_right (Nat.le_refl _)]; simp
theorem good_snoc {xs : List Int} {n : Nat} (h : goodTo xs n xs.length) : goodTo (xs ++ [(n : Int)]) ((n + 1 : Nat) : Int) (xs ++ [(n : Int)]).length := by
  intro i hi
  rw [List.length_append, List.length_singleton] at hi
  have hb : befP (xs ++ [(n : Int)]) i = befP xs i := by
    cases i with
    | zero => rfl
    | succ i => exact fAt_app1 (by omega)
  rw [hb]
  by_cases e : i = xs.length
  · subst e
    rw [fAt_last]
    refine ⟨?_, by omega⟩
    cases hx : xs.length with
    | zero => simp [befP]; omega
    | succ m =>
      show fAt xs m < n
      exact (h m (by omega)).2
  · rw [fAt_app1 (by omega)]
    have := h i (by omega)
    exact ⟨this.1, by omega⟩
theorem good_more {xs : List Int} {n : Nat} (h : goodTo xs n xs.length) : goodTo xs ((n + 1 : Nat) : Int) xs.length := fun i hi => ⟨(h i hi).1, by have := (h i hi).2; omega⟩
theorem chosen_good (sd : List Bool) (off n : Nat) : goodTo (chosenTo sd off n) n (chosenTo sd off n).length := by
  induction n with
  | zero => intro i hi; simp [chosenTo] at hi
  | succ n ih =>
    cases h : bAt sd (off + n)
    · rw [chosen_no h]; exact good_more ih
    · rw [chosen_yes h]; exact good_snoc ih
theorem chosen_in (sd : List Bool) (off n i : Nat) (hi : i < n) : inL (chosenTo sd off n) i = bAt sd (off + i) := by
  unfold inL chosenTo
  cases h : bAt sd (off + i)
  · simp only [decide_eq_false_iff_not, List.mem_map, List.mem_filter, List.mem_range]
    rintro ⟨k, ⟨_, hk⟩, e⟩
    have : k = i := by omega
    subst this
    rw [h] at hk
    cases hk
  · simp only [decide_eq_true_eq, List.mem_map, List.mem_filter, List.mem_range]
    exact ⟨i, ⟨hi, h⟩, rfl⟩
theorem needC_congr {js : List GJob} {cj cj' : Nat → Bool} (h : ∀ i, i < js.length → cj i = cj' i) : needC js cj = needC js cj' := by
  unfold needC
  exact S_congr (fun i hi => by rw [h i hi])
theorem roomC_congr {js : List GJob} {sup : List Int} {cj cj' cs cs' : Nat → Bool} (h : ∀ i, i < js.length → cj i = cj' i) (h2 : ∀ t, t < sup.length → cs t = cs' t) : roomC js sup cj cs = roomC js sup cj' cs' := by
  unfold roomC
  congr 1
  · exact S_congr (fun t ht => by rw [h2 t ht])
  · refine S_congr (fun i hi => ?_)
    rw [h i hi]
    congr 1
    exact S_congr (fun t ht => by rw [h2 t ht])
theorem cut_of_side {js : List GJob} {sup : List Int} {side : List Bool} {N T : Nat} (hN : js.length = N) (hT : sup.length = T) (hok : okP js sup = true) (hc : IsCut ((2 + N + T : Nat) : Int) 0 1 side) (hless : capac (graphP js sup) side < allE js) :
    cutPB js sup (chosenTo side 2 N) (chosenTo side (2 + N) T) = true := by
  subst hN hT
  have h := cut_plan hok (side := side) (by have := hc; rwa [show ((2 + js.length + sup.length : Nat) : Int) = 2 + js.length + sup.length by omega] at this) hless
  unfold cutPB
  rw [hok, marksB_iff.2 (chosen_good side 2 js.length), marksB_iff.2 (chosen_good side (2 + js.length) sup.length)]
  simp only [Bool.true_and, decide_eq_true_eq]
  have e1 : ∀ i, i < js.length → inL (chosenTo side 2 js.length) i = sAt side (2 + i : Int) := fun i hi => by
    rw [chosen_in _ _ _ _ hi]
    unfold bAt sAt
    congr 2
  have e2 : ∀ t, t < sup.length → inL (chosenTo side (2 + js.length) sup.length) t = sAt side (2 + js.length + t : Int) := fun t ht => by
    rw [chosen_in _ _ _ _ ht]
    unfold bAt sAt
    congr 2
  rw [needC_congr e1, roomC_congr e1 e2]
  exact h
theorem rd_ne {W : World} {b n : Nat} {t : TypeId} {f : Nat → Value} {A : Option Addr} {xs : List Int} (ho : Own W b t n f) (hf : ∀ i x, f i ≠ .int .i64 x) (hr : Rd 1 encI W A xs) : ∀ a, A = some a → 0 < xs.length → a.block ≠ b := by
  intro a ha h0 e
  obtain ⟨b', off, hA, hlt, hc⟩ := hr.int h0
  rw [ha] at hA
  injection hA with hA
  subst hA
  dsimp only at e
  subst e
  rw [Nat.add_zero] at hc
  obtain ⟨cs, hb, hs, hcs⟩ := ho
  unfold World.cell? at hc
  rw [hb] at hc
  dsimp only at hc
  by_cases h : off < n
  · simp [hcs off h] at hc
    exact hf off _ hc
  · rw [Array.getElem?_eq_none (by omega)] at hc
    simp at hc
/-- Rows of one list, as a plan. -/
theorem rdP_own {W : World} {gt ga N T : Nat} {h : Nat → Nat → Int} (ot : Own W gt 23 N (fun i => .slice (some ⟨ga, i * T, none⟩) T T)) (oa : Own W ga 3 (N * T) (matC T h)) (hT : T ≤ 24) :
    RdP W (some ⟨gt, 0, none⟩) (mk N (fun i => ⟨some ⟨ga, i * T, none⟩, T, T⟩)) (mk N (fun i => mk T (fun t => h i t))) := by
  refine ⟨ot.rd (by rw [mk_len]; omega) (fun _ => rfl) (fun k x hx j v hv => ?_), by rw [mk_len, mk_len], fun k r p hr hp => ?_⟩
  · have hk : k < N := by have := (List.getElem?_eq_some_iff.1 hx).1; rw [mk_len] at this; exact this
    rw [mk_at _ hk] at hx
    injection hx with hx
    subst hx
    have hj : j = 0 := by have := (List.getElem?_eq_some_iff.1 hv).1; simp [encRow] at this; exact this
    subst hj
    simp only [encRow, List.getElem?_cons_zero, Option.some.injEq] at hv
    rw [← hv, Nat.mul_one, Nat.add_zero]
  · have hk : k < N := by have := (List.getElem?_eq_some_iff.1 hr).1; rw [mk_len] at this; exact this
    rw [mk_at _ hk] at hr hp
    injection hr with hr
    injection hp with hp
    subst hr hp
    refine ⟨mk_len _ _, by dsimp only; omega, fun h0 => ⟨ga, k * T, rfl, oa.lt, fun t x hx j v hv => ?_⟩⟩
    have ht : t < T := by have := (List.getElem?_eq_some_iff.1 hx).1; rw [mk_len] at this; exact this
    rw [mk_at _ ht] at hx
    injection hx with hx
    subst hx
    have hj : j = 0 := by have := (List.getElem?_eq_some_iff.1 hv).1; simp [encI] at this; exact this
    subst hj
    simp only [encI, List.getElem?_cons_zero, Option.some.injEq] at hv
    have hidx : k * T + t < N * T := by
      have : k * T + T ≤ N * T := by rw [← Nat.succ_mul]; exact Nat.mul_le_mul_right _ hk
      omega
    have hT0 : 0 < T := by omega
    rw [Nat.mul_one, Nat.add_zero, oa.cell hidx, ← hv]
    unfold matC
    have e1 : (k * T + t) / T = k := by rw [Nat.mul_comm, Nat.mul_add_div hT0, Nat.div_eq_of_lt ht, Nat.add_zero]
    have e2 : (k * T + t) % T = t := by rw [Nat.mul_comm, Nat.mul_add_mod, Nat.mod_eq_of_lt ht]
    rw [e1, e2]
theorem IsPlan.congr {js : List GJob} {sup : List Int} {P P' : Nat → Nat → Int} (h : IsPlan js sup P) (e : ∀ i t, i < js.length → t < sup.length → P i t = P' i t) : IsPlan js sup P' :=
  ⟨fun i t hi ht => by rw [← e i t hi ht]; exact h.lo i t hi ht, fun i t hi ht => by rw [← e i t hi ht]; exact h.hi i t hi ht, fun i t hi ht hn => by rw [← e i t hi ht]; exact h.out i t hi ht hn,
   fun i hi => by rw [← h.got i hi]; exact S_congr (fun t ht => (e i t hi ht).symm), fun t ht => by rw [S_congr (h := fun i => P i t) (fun i hi => (e i t hi ht).symm)]; exact h.fits t ht⟩
theorem planB_flow {js : List GJob} {sup : List Int} {P h : Nat → Nat → Int} {N T : Nat} (hN : js.length = N) (hT : sup.length = T) (hok : okP js sup = true) (hp : IsPlan js sup P) (e : ∀ i t, i < N → t < T → P i t = h i t) :
    planB js sup (mk N (fun i => mk T (fun t => h i t))) = true := by
  subst hN hT
  have row : ∀ i, i < js.length → rowAt (mk js.length (fun i => mk sup.length (fun t => h i t))) i = mk sup.length (fun t => h i t) := fun i hi => by unfold rowAt; rw [mk_at _ hi]; rfl
  refine planB_iff.2 ⟨hok, mk_len _ _, fun i hi => by rw [row i hi, mk_len], hp.congr (fun i t hi ht => ?_)⟩
  rw [e i t hi ht]
  unfold pAt
  rw [row i hi, mk_f _ ht]
theorem cell_taken {B : Nat} {W W' : World} {p : Addr} {v : Value} (h : W.cell? p = some v) (hT : Taken B W W') : W'.cell? p = some v := by
  cases ho : W.heap[p.block]? with
  | none => unfold World.cell? at h; rw [ho] at h; cases h
  | some o =>
    have hc : o.isCells = true := by
      unfold World.cell? at h
      rw [ho] at h
      cases o <;> first | rfl | (simp at h; done)
    rw [← h]
    exact World.cell?_of_block ((hT.2.2.2.2.2 p.block o ho hc).trans ho.symm)
theorem Rd.taken {α : Type} {sz : Nat} {enc : α → List Value} {A : Option Addr} {xs : List α} {B : Nat} {W W' : World} (hr : Rd sz enc W A xs) (hT : Taken B W W') : Rd sz enc W' A xs := by
  intro h0
  obtain ⟨b, off, hA, hlt, hc⟩ := hr h0
  exact ⟨b, off, hA, by rw [hT.2.2.2.1]; exact hlt, fun k x hx j v hv => cell_taken (hc k x hx j v hv) hT⟩
/-- The world in which the cut is returned. -/
theorem cut_end {w W2 : World} {B n3 n4 c3 c4 : Nat} {ds : List Deferred} {a3 a4 : Option Addr} {cj cs : List Int} (o5 : Own W2 (w.heap.size + 1) 30 2 (fun _ => .slice none 0 0)) (r3 : Rd 1 encI W2 a3 cj) (r4 : Rd 1 encI W2 a4 cs) (hmk : Marks B W2 ds) (bel : Below w.heap.size w W2) :
    Own ((W2.setCell ⟨w.heap.size + 1, 0, none⟩ (.slice a3 n3 c3)).setCell ⟨w.heap.size + 1, 1, none⟩ (.slice a4 n4 c4)).drew (w.heap.size + 1) 30 2 (fun i => if i = 0 then .slice a3 n3 c3 else .slice a4 n4 c4) ∧
    Rd 1 encI ((W2.setCell ⟨w.heap.size + 1, 0, none⟩ (.slice a3 n3 c3)).setCell ⟨w.heap.size + 1, 1, none⟩ (.slice a4 n4 c4)).drew a3 cj ∧
    Rd 1 encI ((W2.setCell ⟨w.heap.size + 1, 0, none⟩ (.slice a3 n3 c3)).setCell ⟨w.heap.size + 1, 1, none⟩ (.slice a4 n4 c4)).drew a4 cs ∧
    Marks B ((W2.setCell ⟨w.heap.size + 1, 0, none⟩ (.slice a3 n3 c3)).setCell ⟨w.heap.size + 1, 1, none⟩ (.slice a4 n4 c4)).drew ds ∧
    Below w.heap.size w ((W2.setCell ⟨w.heap.size + 1, 0, none⟩ (.slice a3 n3 c3)).setCell ⟨w.heap.size + 1, 1, none⟩ (.slice a4 n4 c4)).drew := by
  have hM : Mod (fun q => q = w.heap.size + 1) W2 ((W2.setCell ⟨w.heap.size + 1, 0, none⟩ (.slice a3 n3 c3)).setCell ⟨w.heap.size + 1, 1, none⟩ (.slice a4 n4 c4)).drew :=
    (((Mod.refl (fun q => q = w.heap.size + 1) W2).setCell (p := ⟨w.heap.size + 1, 0, none⟩) (.inl rfl) _).setCell (p := ⟨w.heap.size + 1, 1, none⟩) (.inl rfl) _).drew
  refine ⟨((o5.set 0 _).set 1 _).drew.congr (fun i hi => ?_), r3.mod hM (rd_ne o5 (fun i x h => by cases h) r3), r4.mod hM (rd_ne o5 (fun i x h => by cases h) r4), hmk.keeps (keepsFrom_mod hM _ (fun q hq o ho => by subst hq; exact o5.cells ho)), bel.trans (hM.below bel.size (fun q _ hq => by omega))⟩
  rcases i with _ | _ | i
  · simp
  · simp
  · omega
end Go.Proofs.Ytgfcnkfmgpakkaa
