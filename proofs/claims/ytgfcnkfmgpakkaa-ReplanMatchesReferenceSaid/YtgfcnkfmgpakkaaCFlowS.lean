/-
The search for a way: one round of its loop.
-/
import Derived.Test.YtgfcnkfmgpakkaaCFlowK
import Derived.Test.YtgfcnkfmgpakkaaGFlowN
import Derived.Test.YtgfcnkfmgpakkaaGWay
import Derived.Test.YtgfcnkfmgpakkaaGBase
namespace Go.Proofs.Ytgfcnkfmgpakkaa
open Go.RowKit Go.Shelf
attribute [local go_sem] Oper.semAt_some
set_option linter.unusedSimpArgs false

def firstLoop : Code → Option Code
  | .loop c => some c
  | .seq a b => match firstLoop a with
    | some c => some c
    | none => firstLoop b
  | .block _ c => firstLoop c
  | .scope c => firstLoop c
  | .cond _ a b => match firstLoop a with
    | some c => some c
    | none => firstLoop b
  | _ => none
noncomputable def searchBody : Code := ((Try.f85.body.bind firstLoop).getD .skip)

theorem ownsRow_below {W W' : World} {base : Nat} {e : TypeId} {size : Nat} {v : Value} {n : Nat} {xs : List Value} (h : W.ownsRow base e size v n xs) (hb : Below W.heap.size W W') : W'.ownsRow base e size v n xs :=
  h.kept (grown_none hb) (by
    rcases h.2 with ⟨rfl, _⟩ | ⟨g, cap, cur, rfl, _⟩
    · exact .inl rfl
    · exact .inr (by simp [Value.ownBlock]))
theorem SMem.below {W W' : World} {b5 b8 b9 bq gs gb B nn : Nat} {t : Int} {v : Value} {seen : List Bool} {st : List GStep} {xs : List Int} {h : Nat} (m : SMem W b5 b8 b9 bq gs gb B nn t v seen st xs h) (hb : Below W.heap.size W W') : SMem W' b5 b8 b9 bq gs gb B nn t v seen st xs h :=
  ⟨m.k5.keep hb m.k5.lt, m.k8.keep hb m.k8.lt, m.k9.keep hb m.k9.lt, m.sn.keep hb m.sn.lt, m.by_.keep hb m.by_.lt, ⟨m.qu.hd.keep hb m.qu.hd.lt, ownsRow_below m.qu.own hb, m.qu.le⟩, m.l5⟩
theorem Marks.below {B : Nat} {W W' : World} {ds : List Deferred} (h : Marks B W ds) (hb : Below W.heap.size W W') : Marks B W' ds :=
  h.keeps ⟨hb.size, fun k o _ hk _ => by
    have hl : k < W.heap.size := (Array.getElem?_eq_some_iff.1 hk).1
    rw [hb.block k hl]; exact hk⟩

/-- The frame of the search's loop. -/
def SFrame (gN s t b5 b8 b9 bq : Nat) (ds : List Deferred) (a : Act) : Prop := ∃ u11 u12 u13 u14 u15 u16 u17 u18 u19 u20 u21 u22 u23 u24 u25 u26 u27 u28 u29 u30 u31 u32 u33 u34 u35 u36 u37 u38 u39 u40 u41 u42 u43 u44 u45 u46 u47 u48 u49 u50 u51 u52 u53 u54 u55 u56 u57 u58 u59 u60 u61 u62 u63 : Value, a = ⟨List.toArray ((.pointer (some ⟨gN, 0, none⟩)) :: (.int .i64 s) :: (.int .i64 t) :: undef :: undef :: (.pointer (some ⟨b5, 0, none⟩)) :: (.slice none 0 0) :: (.slice none 0 0) :: (.pointer (some ⟨b8, 0, none⟩)) :: (.pointer (some ⟨b9, 0, none⟩)) :: (.pointer (some ⟨bq, 0, none⟩)) :: u11 :: u12 :: u13 :: u14 :: u15 :: u16 :: u17 :: u18 :: u19 :: u20 :: u21 :: u22 :: u23 :: u24 :: u25 :: u26 :: u27 :: u28 :: u29 :: u30 :: u31 :: u32 :: u33 :: u34 :: u35 :: u36 :: u37 :: u38 :: u39 :: u40 :: u41 :: u42 :: u43 :: u44 :: u45 :: u46 :: u47 :: u48 :: u49 :: u50 :: u51 :: u52 :: u53 :: u54 :: u55 :: u56 :: u57 :: u58 :: u59 :: u60 :: u61 :: u62 :: u63 :: []), ds⟩

/-- What holds at the head of each round. -/
def SInv (gN nn N s t b5 b8 b9 bq gs gb B : Nat) (es : List GEdge) (fl : List Int) (w : World) (a : Act) (W : World) : Prop :=
  ∃ v seen st xs h ds, SMem W b5 b8 b9 bq gs gb B nn t v seen st xs h ∧ Bfs es fl nn N s t seen st xs ∧ (∀ p u : Nat, p < h → xs[p]? = some (u : Int) → DoneAt es fl N seen u) ∧ Below w.heap.size w W ∧ B ≤ W.heap.size ∧ Marks B W ds ∧ SFrame gN s t b5 b8 b9 bq ds a
/-- What holds where the loop is left. -/
def SExit (gN nn N s t b5 b8 b9 bq gs gb B : Nat) (es : List GEdge) (fl : List Int) (w : World) (a : Act) (W : World) : Prop :=
  ∃ v seen st xs h ds, SMem W b5 b8 b9 bq gs gb B nn t v seen st xs h ∧ (Found es fl nn N s t seen st ∨ (Bfs es fl nn N s t seen st xs ∧ ∀ u, u < nn → bAt seen u = true → DoneAt es fl N seen u)) ∧ Below w.heap.size w W ∧ Marks B W ds ∧ SFrame gN s t b5 b8 b9 bq ds a
noncomputable def SMu (bq nn : Nat) (_ : Act) (W : World) : Nat := nn + 1 - (intOf ((W.cell? ⟨bq, 1, none⟩).getD undef)).toNat

set_option maxRecDepth 100000 in
set_option maxHeartbeats 2000000 in
theorem search_none (gN nn N s t b5 b8 b9 bq gs gb B : Nat) (es : List GEdge) (fl : List Int) (w : World) (Q0 : Exit → Act → World → Prop)
    (hexit : Hid (∀ a' W', SExit gN nn N s t b5 b8 b9 bq gs gb B es fl w a' W' → Q0 (.exit 0) a' W')) (v : Value) (seen : List Bool) (st : List GStep) (xs : List Int) (ds : List Deferred) (u11 u12 u13 u14 u15 u16 u17 u18 u19 u20 u21 u22 u23 u24 u25 u26 u27 u28 u29 u30 u31 u32 u33 u34 u35 u36 u37 u38 u39 u40 u41 u42 u43 u44 u45 u46 u47 u48 u49 u50 u51 u52 u53 u54 u55 u56 u57 u58 u59 u60 u61 u62 u63 : Value) (W : World) (R : Act → World → Prop)
    (hmem : SMem W b5 b8 b9 bq gs gb B nn t v seen st xs xs.length) (hbfs : Bfs es fl nn N s t seen st xs) (hdone : Hid (∀ p u : Nat, p < xs.length → xs[p]? = some (u : Int) → DoneAt es fl N seen u)) (hbw : Below w.heap.size w W) (hmk : Marks B W ds) :
    Code.wp Try.prog searchBody (Exit.then R Q0) ⟨List.toArray ((.pointer (some ⟨gN, 0, none⟩)) :: (.int .i64 s) :: (.int .i64 t) :: undef :: undef :: (.pointer (some ⟨b5, 0, none⟩)) :: (.slice none 0 0) :: (.slice none 0 0) :: (.pointer (some ⟨b8, 0, none⟩)) :: (.pointer (some ⟨b9, 0, none⟩)) :: (.pointer (some ⟨bq, 0, none⟩)) :: u11 :: u12 :: u13 :: u14 :: u15 :: u16 :: u17 :: u18 :: u19 :: u20 :: u21 :: u22 :: u23 :: u24 :: u25 :: u26 :: u27 :: u28 :: u29 :: u30 :: u31 :: u32 :: u33 :: u34 :: u35 :: u36 :: u37 :: u38 :: u39 :: u40 :: u41 :: u42 :: u43 :: u44 :: u45 :: u46 :: u47 :: u48 :: u49 :: u50 :: u51 :: u52 :: u53 :: u54 :: u55 :: u56 :: u57 :: u58 :: u59 :: u60 :: u61 :: u62 :: u63 :: []), ds⟩ W := by
  conv => arg 2; whnf
  go_wp2_with fail
  refine (fPop_none bq B v xs W hmem.qu).mono ?_
  rintro e w1 ⟨rfl, hb1⟩
  go_wp2_with fail
  refine hexit.out _ _ ⟨v, seen, st, xs, xs.length, ds, hmem.below hb1, .inr ⟨hbfs, fun u hu hus => ?_⟩, below_then hbw hb1, hmk.below hb1, ⟨_, _, _, _, _, _, _, _, _, _, _, _, _, _, _, _, _, _, _, _, _, _, _, _, _, _, _, _, _, _, _, _, _, _, _, _, _, _, _, _, _, _, _, _, _, _, _, _, _, _, _, _, _, rfl⟩⟩
  obtain ⟨p, hp⟩ := List.getElem?_of_mem (hbfs.listed u hu hus)
  exact hdone.out p u (List.getElem?_eq_some_iff.1 hp).1 hp

/-- Marks below m0 abide changes from m0 on. -/
def MarksLt (B m0 : Nat) (W : World) (ds : List Deferred) : Prop := Marks B W ds ∧ ∀ d, d ∈ ds → ∃ D, d.target = .collected D ∧ D < m0
theorem MarksLt.nc {B m0 : Nat} {W W' : World} {ds : List Deferred} (h : MarksLt B m0 W ds) (hn : Nc m0 W W') : MarksLt B m0 W' ds := by
  obtain ⟨⟨Ds, e, hd, hD⟩, hl⟩ := h
  obtain ⟨row, hg, hr⟩ := hn
  refine ⟨⟨Ds, e, hd, fun D hm => ⟨(hD D hm).1, Nat.lt_of_lt_of_le (hD D hm).2.1 hg.size, ?_⟩⟩, hl⟩
  rw [hg.block D (hD D hm).2.1 ?_]
  · exact (hD D hm).2.2
  · intro e2
    have h1 := (hr D e2.symm).1
    obtain ⟨D', e3, h3⟩ := hl ⟨.collected D, #[]⟩ (by rw [e]; exact List.mem_map.2 ⟨D, hm, rfl⟩)
    injection e3 with e3
    omega
/-- The frame in which a round's body begins: the step lies in a box of its own. -/
def SAx (b5 b8 b9 bq m0 : Nat) (x : GStep) (a' : Act) (W' : World) : Prop := ∃ bx, Own W' bx 122 4 (fun i => (encS x)[i]?.getD undef) ∧ m0 ≤ bx ∧ ∃ x0 x1 x2 x3 x4 x6 x7 x11 x12 x14 x15 x16 x17 x18 x19 x20 x21 x22 x23 x24 x25 x26 x27 x28 x29 x30 x31 x32 x33 x34 x35 x36 x37 x38 x39 x40 x41 x42 x43 x44 x45 x46 x47 x48 x49 x50 x51 x52 x53 x54 x55 x56 x57 x58 x59 x60 x61 x62 x63 : Value, a' = ⟨List.toArray (x0 :: x1 :: x2 :: x3 :: x4 :: (.pointer (some ⟨b5, 0, none⟩)) :: x6 :: x7 :: (.pointer (some ⟨b8, 0, none⟩)) :: (.pointer (some ⟨b9, 0, none⟩)) :: (.pointer (some ⟨bq, 0, none⟩)) :: x11 :: x12 :: (.pointer (some ⟨bx, 0, none⟩)) :: x14 :: x15 :: x16 :: x17 :: x18 :: x19 :: x20 :: x21 :: x22 :: x23 :: x24 :: x25 :: x26 :: x27 :: x28 :: x29 :: x30 :: x31 :: x32 :: x33 :: x34 :: x35 :: x36 :: x37 :: x38 :: x39 :: x40 :: x41 :: x42 :: x43 :: x44 :: x45 :: x46 :: x47 :: x48 :: x49 :: x50 :: x51 :: x52 :: x53 :: x54 :: x55 :: x56 :: x57 :: x58 :: x59 :: x60 :: x61 :: x62 :: x63 :: []), []⟩
/-- What holds between two rounds over the steps of a node: node number h of the queue is at work, the steps pre have been seen to. -/
def SMid (nn N s t b5 b8 b9 bq gs gb B h node b2 m0 : Nat) (es : List GEdge) (fl : List Int) (w : World) (ds : List Deferred) (pre : List (StepAt es fl node N)) (W : World) : Prop :=
  ∃ v seen st xs, SMem W b5 b8 b9 bq gs gb B nn t v seen st xs (h + 1) ∧ Bfs es fl nn N s t seen st xs ∧ (∀ p u : Nat, p < h → xs[p]? = some (u : Int) → DoneAt es fl N seen u) ∧ xs[h]? = some (node : Int) ∧ bAt seen node = true ∧
    (∀ x, x ∈ pre → bAt seen x.1.dst.toNat = true) ∧ Below w.heap.size w W ∧ MarksLt B m0 W ds ∧ (∀ k, v.ownBlock = some k → k ≠ b2 ∧ k + 1 ≠ b2) ∧ m0 ≤ W.heap.size
/-- What holds where such a round has left the search. -/
def SOut (nn N s t b5 b8 b9 bq gs gb B m0 : Nat) (es : List GEdge) (fl : List Int) (w : World) (ds : List Deferred) (c : Code) (W : World) : Prop :=
  c = .exit 0 ∧ ∃ v seen st xs h, SMem W b5 b8 b9 bq gs gb B nn t v seen st xs h ∧ Found es fl nn N s t seen st ∧ Below w.heap.size w W ∧ MarksLt B m0 W ds ∧ m0 ≤ W.heap.size

theorem SMem.nc {Bn : Nat} {W W' : World} {b5 b8 b9 bq gs gb B nn : Nat} {t : Int} {v : Value} {seen : List Bool} {st : List GStep} {xs : List Int} {h : Nat} (m : SMem W b5 b8 b9 bq gs gb B nn t v seen st xs h) (hn : Nc Bn W W') : SMem W' b5 b8 b9 bq gs gb B nn t v seen st xs h :=
  ⟨m.k5.nc hn, m.k8.nc hn, m.k9.nc hn, m.sn.nc hn, m.by_.nc hn, ⟨m.qu.hd.nc hn, ownsRow_nc m.qu.own hn, m.qu.le⟩, m.l5⟩

theorem SMid.size {nn N s t b5 b8 b9 bq gs gb B h node b2 m0 : Nat} {es : List GEdge} {fl : List Int} {w : World} {ds : List Deferred} {pre : List (StepAt es fl node N)} {W : World} (H : SMid nn N s t b5 b8 b9 bq gs gb B h node b2 m0 es fl w ds pre W) : m0 ≤ W.heap.size := by
  obtain ⟨v', seen', st', xs', m1, m2, m3, m4, m5, m6, m7, m8, m9, m10⟩ := H
  exact m10
theorem SMid.nc {nn N s t b5 b8 b9 bq gs gb B h node b2 m0 : Nat} {es : List GEdge} {fl : List Int} {w : World} {ds : List Deferred} {pre : List (StepAt es fl node N)} {W1 W2 : World} (H : SMid nn N s t b5 b8 b9 bq gs gb B h node b2 m0 es fl w ds pre W1) (hw : w.heap.size ≤ m0) (hn : Nc m0 W1 W2) : SMid nn N s t b5 b8 b9 bq gs gb B h node b2 m0 es fl w ds pre W2 := by
  obtain ⟨v', seen', st', xs', m1, m2, m3, m4, m5, m6, m7, m8, m9, m10⟩ := H
  have hs : W1.heap.size ≤ W2.heap.size := by obtain ⟨row, hg, _⟩ := hn; exact hg.size
  exact ⟨v', seen', st', xs', m1.nc hn, m2, m3, m4, m5, m6, below_nc m7 (Nat.le_refl _) hn hw, m8.nc hn, m9, Nat.le_trans m10 hs⟩
theorem SMid.alloc {nn N s t b5 b8 b9 bq gs gb B h node b2 m0 : Nat} {es : List GEdge} {fl : List Int} {w : World} {ds : List Deferred} {pre : List (StepAt es fl node N)} {W : World} (H : SMid nn N s t b5 b8 b9 bq gs gb B h node b2 m0 es fl w ds pre W) (hw : w.heap.size ≤ m0) (o : Obj) : SMid nn N s t b5 b8 b9 bq gs gb B h node b2 m0 es fl w ds pre (W.alloc o) :=
  H.nc hw ⟨none, World.grownBy_alloc W o none, fun r e => by cases e⟩
theorem step_cells (e d r : Int) (f : Bool) : ∀ i, i < 4 → (#[Value.int .i64 e, .int .i64 d, .int .i64 r, .bool f] : Array Value)[i]? = some ((encS ⟨e, d, r, f⟩)[i]?.getD undef) := by
  intro i hi
  match i, hi with
  | 0, _ => rfl
  | 1, _ => rfl
  | 2, _ => rfl
  | 3, _ => rfl

theorem marks_more {B m0 D : Nat} {W : World} {ds : List Deferred} (h : MarksLt B m0 W ds) (hD : m0 ≤ D) (hB : B ≤ m0) (hdf : W.heap[D]? = some (.deferred (some []))) : Marks B W ({ target := .collected D, args := #[] } :: ds) := by
  obtain ⟨⟨Ds, e, hn, hm⟩, hl⟩ := h
  refine ⟨D :: Ds, by rw [e]; rfl, List.nodup_cons.2 ⟨fun hmem => ?_, hn⟩, fun D' hD' => ?_⟩
  · obtain ⟨D2, e2, hlt⟩ := hl ⟨.collected D, #[]⟩ (by rw [e]; exact List.mem_map.2 ⟨D, hmem, rfl⟩)
    injection e2 with e2
    omega
  · rcases List.mem_cons.1 hD' with rfl | hD'
    · exact ⟨by omega, (Array.getElem?_eq_some_iff.1 hdf).1, hdf⟩
    · exact hm D' hD'
theorem smu_eq {W : World} {b5 b8 b9 bq gs gb B nn : Nat} {t : Int} {v : Value} {seen : List Bool} {st : List GStep} {xs : List Int} {h : Nat} (m : SMem W b5 b8 b9 bq gs gb B nn t v seen st xs h) (a : Act) : SMu bq nn a W = nn + 1 - h := by
  unfold SMu
  rw [m.qu.hd.cell (i := 1) (by omega)]
  simp [queueCell, intOf]

set_option maxRecDepth 100000 in
set_option maxHeartbeats 2000000 in
theorem search_some (gN gF gA nn N c s t b5 b8 b9 bq gs gb B : Nat) (A : Option Addr) (es : List GEdge) (fl : List Int) (w : World) (hnet : Hid (NetRd w gN gF gA nn N c A es fl)) (Q0 : Exit → Act → World → Prop)
    (hexit : Hid (∀ a' W', SExit gN nn N s t b5 b8 b9 bq gs gb B es fl w a' W' → Q0 (.exit 0) a' W')) (v : Value) (seen : List Bool) (st : List GStep) (xs : List Int) (h : Nat) (ds : List Deferred) (u11 u12 u13 u14 u15 u16 u17 u18 u19 u20 u21 u22 u23 u24 u25 u26 u27 u28 u29 u30 u31 u32 u33 u34 u35 u36 u37 u38 u39 u40 u41 u42 u43 u44 u45 u46 u47 u48 u49 u50 u51 u52 u53 u54 u55 u56 u57 u58 u59 u60 u61 u62 u63 : Value) (W : World) (hh : h < xs.length)
    (hmem : SMem W b5 b8 b9 bq gs gb B nn t v seen st xs h) (hbfs : Bfs es fl nn N s t seen st xs) (hdone : Hid (∀ p u : Nat, p < h → xs[p]? = some (u : Int) → DoneAt es fl N seen u)) (hbw : Below w.heap.size w W) (hBW : B ≤ W.heap.size) (hwB : w.heap.size ≤ bq) (hwS : w.heap.size ≤ gs) (hwb : w.heap.size ≤ gb) (hwBB : w.heap.size ≤ B) (hmk : Marks B W ds) :
    Code.wp Try.prog searchBody (Exit.then (fun a' W' => SInv gN nn N s t b5 b8 b9 bq gs gb B es fl w a' W' ∧ SMu bq nn a' W' < SMu bq nn ⟨List.toArray ((.pointer (some ⟨gN, 0, none⟩)) :: (.int .i64 s) :: (.int .i64 t) :: undef :: undef :: (.pointer (some ⟨b5, 0, none⟩)) :: (.slice none 0 0) :: (.slice none 0 0) :: (.pointer (some ⟨b8, 0, none⟩)) :: (.pointer (some ⟨b9, 0, none⟩)) :: (.pointer (some ⟨bq, 0, none⟩)) :: u11 :: u12 :: u13 :: u14 :: u15 :: u16 :: u17 :: u18 :: u19 :: u20 :: u21 :: u22 :: u23 :: u24 :: u25 :: u26 :: u27 :: u28 :: u29 :: u30 :: u31 :: u32 :: u33 :: u34 :: u35 :: u36 :: u37 :: u38 :: u39 :: u40 :: u41 :: u42 :: u43 :: u44 :: u45 :: u46 :: u47 :: u48 :: u49 :: u50 :: u51 :: u52 :: u53 :: u54 :: u55 :: u56 :: u57 :: u58 :: u59 :: u60 :: u61 :: u62 :: u63 :: []), ds⟩ W) Q0) ⟨List.toArray ((.pointer (some ⟨gN, 0, none⟩)) :: (.int .i64 s) :: (.int .i64 t) :: undef :: undef :: (.pointer (some ⟨b5, 0, none⟩)) :: (.slice none 0 0) :: (.slice none 0 0) :: (.pointer (some ⟨b8, 0, none⟩)) :: (.pointer (some ⟨b9, 0, none⟩)) :: (.pointer (some ⟨bq, 0, none⟩)) :: u11 :: u12 :: u13 :: u14 :: u15 :: u16 :: u17 :: u18 :: u19 :: u20 :: u21 :: u22 :: u23 :: u24 :: u25 :: u26 :: u27 :: u28 :: u29 :: u30 :: u31 :: u32 :: u33 :: u34 :: u35 :: u36 :: u37 :: u38 :: u39 :: u40 :: u41 :: u42 :: u43 :: u44 :: u45 :: u46 :: u47 :: u48 :: u49 :: u50 :: u51 :: u52 :: u53 :: u54 :: u55 :: u56 :: u57 :: u58 :: u59 :: u60 :: u61 :: u62 :: u63 :: []), ds⟩ W := by
  have hxl : xs.length ≤ nn := by rw [← hbfs.cnt, ← hbfs.lenS]; exact List.count_le_length
  have hnn : nn ≤ 64 := by have := (okG_iff.1 hnet.out.ok).1; omega
  obtain ⟨node, hx, hnode, hns⟩ := hbfs.elems (xs[h]) (List.getElem_mem hh)
  have hxh : xs[h]?.getD 0 = (node : Int) := by rw [List.getElem?_eq_getElem hh]; exact hx
  have Hxh := Lib.hid hxh; clear hxh
  conv => arg 2; whnf
  go_wp2_with fail
  refine (fPop_some bq B v xs h W hmem.qu (by omega) hh).mono ?_
  rintro e w1 ⟨rfl, hq1, hm1⟩
  rw [Hxh.out]
  go_wp2_with fail
  refine (fSteps_any gN node w1).mono ?_
  rintro e w2 ⟨rfl, rfl⟩
  go_wp2_with fail
  obtain ⟨Wr, hWr⟩ : ∃ Wr, (w1.alloc (.cells #[.pointer (some ⟨gN, 0, none⟩)] 99)).alloc (.cells #[.int .i64 node] 3) = Wr := ⟨_, rfl⟩
  rw [hWr]
  have hbr : Below w1.heap.size w1 Wr := by rw [← hWr]; exact ((Below.refl _ w1).alloc (Nat.le_refl _) _).alloc (by simp) _
  have hb1 : Wr.cell? ⟨w1.heap.size, 0, none⟩ = some (.pointer (some ⟨gN, 0, none⟩)) := by rw [← hWr]; clear hWr; go_simp
  have hb2 : Wr.cell? ⟨w1.heap.size + 1, 0, none⟩ = some (.int .i64 node) := by rw [← hWr]; clear hWr; go_simp
  have hsz : Wr.heap.size = w1.heap.size + 1 + 1 := by rw [← hWr]; simp
  have Hsz := Lib.hid hsz; clear hsz hWr
  have hmem1 : SMem w1 b5 b8 b9 bq gs gb B nn t v seen st xs (h + 1) :=
    ⟨hmem.k5.mod hm1 (hmem.k5.ne hmem.qu.hd (by decide)), hmem.k8.mod hm1 (hmem.k8.ne hmem.qu.hd (by decide)), hmem.k9.mod hm1 (hmem.k9.ne hmem.qu.hd (by decide)), hmem.sn.mod hm1 (hmem.sn.ne hmem.qu.hd (by decide)), hmem.by_.mod hm1 (hmem.by_.ne hmem.qu.hd (by decide)), hq1, hmem.l5⟩
  have hbw1 : Below w.heap.size w w1 := hbw.trans (hm1.below hbw.size (fun k _ hk => by omega))
  have hbwr : Below w.heap.size w Wr := hbw1.trans (hbr.mono hbw1.size)
  refine (wpIn_wide (n := 5)).1 ?_
  refine wpIn_rangeFunc_ownH (F := Fence.wide) (α := StepAt es fl node N) rfl (by omega) (gf := 120) (lb := #[.pointer (some ⟨w1.heap.size, 0, none⟩), .pointer (some ⟨w1.heap.size + 1, 0, none⟩)]) rfl trivial (enters_of Try.func120 (by kernel_rfl) rfl)
    (encs := fun x => #[aggS x.1]) (Kp := KpS w.heap.size w1.heap.size (w1.heap.size + 1)) (S := fun ys => ys.map (·.1) = stepsOf es fl node (inc es N node)) (Sp := fun ys => ys.map (·.1) <+: stepsOf es fl node (inc es N node)) (N := (stepsOf es fl node (inc es N node)).length) (w0 := Wr)
    (fun l J Jx W' hW' hJ _ hY h0 => fSteps1_in 4 (by omega) l gN gF gA nn N c w1.heap.size (w1.heap.size + 1) node _ A es fl w hnet.out hnode rfl J Jx W' hJ hY (hbwr.trans (hW'.mono hbwr.size)) ((hW'.cell (p := ⟨w1.heap.size, 0, none⟩) (by rw [Hsz.out]; show w1.heap.size < _; omega)).trans hb1) ((hW'.cell (p := ⟨w1.heap.size + 1, 0, none⟩) (by rw [Hsz.out]; show w1.heap.size + 1 < _; omega)).trans hb2) h0)
    ?hKt ?hKb (Below.refl _ _) (fun _ => rfl) (SMid nn N s t b5 b8 b9 bq gs gb B h node (w1.heap.size + 1) Wr.heap.size es fl w ds) (fun cd _ => SOut nn N s t b5 b8 b9 bq gs gb B Wr.heap.size es fl w ds cd) ?hI ?hIx ?h0 (fun x a' W' => SAx b5 b8 b9 bq Wr.heap.size x.1 a' W') ?hAx ?assign ?body ?done ?stop
  case hKt => exact fun h1 h2 => ⟨h1.bel.trans h2.bel, h2.s1.trans h1.s1, h2.s2.trans h1.s2⟩
  case hKb =>
    intro W' l o o' hl ho _ _
    have hs := hbwr.size
    have hz := Hsz.out
    exact ⟨⟨rfl, rfl, rfl, by simp, fun k hk => World.putObj_heap_other (by omega)⟩, World.putObj_heap_other (by omega), World.putObj_heap_other (by omega)⟩
  case hI =>
    rintro pre W1 W2 row ⟨v', seen', st', xs', m1, m2, m3, m4, m5, m6, m7, m8, m9, m10⟩ hg hr
    have hn : Nc Wr.heap.size W1 W2 := ⟨row, hg, hr⟩
    exact ⟨v', seen', st', xs', m1.nc hn, m2, m3, m4, m5, m6, below_nc m7 (Nat.le_refl _) hn hbwr.size, m8.nc hn, m9, Nat.le_trans m10 hg.size⟩
  case hIx =>
    rintro cd pre W1 W2 row ⟨e1, v', seen', st', xs', h', m1, m2, m7, m8, m10⟩ hg hr
    have hn : Nc Wr.heap.size W1 W2 := ⟨row, hg, hr⟩
    exact ⟨e1, v', seen', st', xs', h', m1.nc hn, m2, below_nc m7 (Nat.le_refl _) hn hbwr.size, m8.nc hn, Nat.le_trans m10 hg.size⟩
  case h0 =>
    have hz := Hsz.out
    have hs1 := hm1.size
    refine ⟨v, seen, st, xs, hmem1.below hbr, hbfs, hdone.out, by rw [List.getElem?_eq_getElem hh, hx], hns, (fun x hx => by cases hx), hbwr, ⟨?_, ?_⟩, ?_, Nat.le_refl _⟩
    · refine Marks.below (hmk.keeps ⟨hm1.size, fun k o _ hk hoc => ?_⟩) hbr
      have hl : k < W.heap.size := (Array.getElem?_eq_some_iff.1 hk).1
      rw [hm1.block k hl (by
        rintro rfl
        obtain ⟨cs, hb, _⟩ := hmem.qu.hd
        rw [hb] at hk
        cases hk
        cases hoc)]
      exact hk
    · obtain ⟨Ds, e, _, hD⟩ := hmk
      intro d hd
      rw [e] at hd
      obtain ⟨D, hm, rfl⟩ := List.mem_map.1 hd
      exact ⟨D, rfl, by have := (hD D hm).2.1; omega⟩
    · intro k e
      have := (hmem.qu.own.lt _ e).2
      omega
  case hAx =>
    rintro x a' u W1 W2 row ⟨bx, hO, hle, hfr⟩ hg hr
    exact ⟨bx, hO.nc ⟨row, hg, hr⟩, hle, hfr⟩
  case assign =>
    rintro l pre ⟨⟨xe, xd, xr, xf⟩, hxg⟩ W1 K hi hK
    dsimp only [aggS]
    gi_wp2
    have hz := Hsz.out
    have hs := hbwr.size
    have m10 := hi.size
    refine hK _ _ ((KeepsOthers.alloc _ _).from _) ⟨(Below.refl _ W1).alloc (by omega) _, Below.heap_alloc _ _ _ (by omega), Below.heap_alloc _ _ _ (by omega)⟩ (hi.alloc hbwr.size _) ⟨W1.heap.size, Own.newAt _ _ _ _ rfl rfl (step_cells xe xd xr xf), m10, _, _, _, _, _, _, _, _, _, _, _, _, _, _, _, _, _, _, _, _, _, _, _, _, _, _, _, _, _, _, _, _, _, _, _, _, _, _, _, _, _, _, _, _, _, _, _, _, _, _, _, _, _, _, _, _, _, _, _, rfl⟩
  case body =>
    rintro l pre ⟨⟨xe, xd, xr, xf⟩, hxg⟩ a' W1 hl hlr ⟨v', seen', st', xs', m1, m2, m3, m4, m5, m6, m7, m8, m9, m10⟩ ⟨bx, hO, hbx, x0, x1, x2, x3, x4, x6, x7, x11, x12, x14, x15, x16, x17, x18, x19, x20, x21, x22, x23, x24, x25, x26, x27, x28, x29, x30, x31, x32, x33, x34, x35, x36, x37, x38, x39, x40, x41, x42, x43, x44, x45, x46, x47, x48, x49, x50, x51, x52, x53, x54, x55, x56, x57, x58, x59, x60, x61, x62, x63, rfl⟩ hpl
    obtain ⟨d0, d1⟩ := GoodStep.dst_lt hnet.out.ok hnet.out.len hxg
    obtain ⟨d, rfl⟩ : ∃ d : Nat, xd = (d : Int) := ⟨xd.toNat, by dsimp only at d0; omega⟩
    dsimp only at d0 d1
    have hd : d < nn := by omega
    have c8 := m1.k8.cell (i := 0) (by omega)
    have cx0 := hO.cell (i := 0) (by omega)
    have cx1 := hO.cell (i := 1) (by omega)
    have cx2 := hO.cell (i := 2) (by omega)
    have cx3 := hO.cell (i := 3) (by omega)
    dsimp only [encS, List.getElem?_cons_zero, List.getElem?_cons_succ, Option.getD_some] at cx0 cx1 cx2 cx3
    have cg := m1.sn.cell hd
    cases hsd : bAt seen' d with
    | true =>
      have hsd' : seen'[d]?.getD false = true := hsd
      rw [hsd'] at cg
      gi_wp2
      refine ⟨KeepsFrom.refl _ _, ⟨Below.refl _ _, rfl, rfl⟩, v', seen', st', xs', m1, m2, m3, m4, m5, fun y hy => ?_, m7, m8, m9, m10⟩
      rcases List.mem_append.1 hy with hy | hy
      · exact m6 y hy
      · rw [List.mem_singleton] at hy
        subst hy
        exact hsd
    | false =>
      have hsd' : seen'[d]?.getD false = false := hsd
      rw [hsd'] at cg
      have c9 := m1.k9.cell (i := 0) (by omega)
      have fg := m1.sn.frozen d
      have fb0 := m1.by_.frozen (d * 4)
      have fb1 := m1.by_.frozen (d * 4 + 1)
      have fb2 := m1.by_.frozen (d * 4 + 2)
      have fb3 := m1.by_.frozen (d * 4 + 3)
      have cb0 := m1.by_.cell (i := d * 4) (by omega)
      have cb1 := m1.by_.cell (i := d * 4 + 1) (by omega)
      have cb2 := m1.by_.cell (i := d * 4 + 2) (by omega)
      have cb3 := m1.by_.cell (i := d * 4 + 3) (by omega)
      have ngb : gs ≠ gb := m1.sn.ne m1.by_ (by decide)
      have ngb' : gb ≠ gs := fun e => ngb e.symm
      have ngx : gs ≠ bx := m1.sn.ne hO (by decide)
      have nbx : gb ≠ bx := fun e => by
        have := hmem1.by_.lt
        have hz := Hsz.out
        omega
      have hdz : (d : Int) < (nn : Int) := by omega
      generalize stCell st' (d * 4) = z0 at cb0
      generalize stCell st' (d * 4 + 1) = z1 at cb1
      generalize stCell st' (d * 4 + 2) = z2 at cb2
      generalize stCell st' (d * 4 + 3) = z3 at cb3
      gi_wp2
      rename_i hKK
      refine region_in (S := fun w' => w'.cell? ⟨b8, 0, none⟩ = some (.slice (some ⟨gs, 0, none⟩) nn nn) ∧ w'.cell? ⟨b9, 0, none⟩ = some (.slice (some ⟨gb, 0, none⟩) nn nn) ∧ w'.cell? ⟨bx, 0, none⟩ = some (.int .i64 xe) ∧ w'.cell? ⟨bx, 1, none⟩ = some (.int .i64 d) ∧ w'.cell? ⟨bx, 2, none⟩ = some (.int .i64 xr) ∧ w'.cell? ⟨bx, 3, none⟩ = some (.bool xf)) (by kernel_rfl) (by kernel_rfl) ⟨c8, c9, cx0, cx1, cx2, cx3⟩ (fun hHeld => ?_)
      refine wpAnyH_take (i := 0) (v := .slice (some ⟨gs, 0, none⟩) nn nn) rfl (by kernel_rfl) (by kernel_rfl) (by kernel_rfl) (fun _ _ _ h => absurd h.1 (by simp)) (Or.inl ⟨by rfl, fun w' hSw => ?_⟩) hHeld ?_
      · obtain ⟨k0, k1, k2, k3, k4, k5⟩ := hSw
        go_simp
      simp only [Act.put, List.setIfInBounds_toArray, List.set_cons_zero, List.set_cons_succ]
      refine wpAnyH_take (i := 1) (v := .pointer (some ⟨bx, 1, none⟩)) rfl (by kernel_rfl) (by kernel_rfl) (by kernel_rfl) (fun _ _ _ h => absurd h.1 (by simp)) (Or.inl ⟨by rfl, fun w' hSw => ?_⟩) hHeld ?_
      · obtain ⟨k0, k1, k2, k3, k4, k5⟩ := hSw
        go_simp
      simp only [Act.put, List.setIfInBounds_toArray, List.set_cons_zero, List.set_cons_succ]
      refine wpAnyH_take (i := 2) (v := .int .i64 d) rfl (by kernel_rfl) (by kernel_rfl) (by kernel_rfl) (fun _ _ _ h => absurd h.1 (by simp)) (Or.inl ⟨by rfl, fun w' hSw => ?_⟩) hHeld ?_
      · obtain ⟨k0, k1, k2, k3, k4, k5⟩ := hSw
        go_simp
      simp only [Act.put, List.setIfInBounds_toArray, List.set_cons_zero, List.set_cons_succ]
      refine wpAnyH_take (i := 3) (v := .slice (some ⟨gb, 0, none⟩) nn nn) rfl (by kernel_rfl) (by kernel_rfl) (by kernel_rfl) (fun _ _ _ h => absurd h.1 (by simp)) (Or.inl ⟨by rfl, fun w' hSw => ?_⟩) hHeld ?_
      · obtain ⟨k0, k1, k2, k3, k4, k5⟩ := hSw
        go_simp
      simp only [Act.put, List.setIfInBounds_toArray, List.set_cons_zero, List.set_cons_succ]
      refine wpAnyH_take (i := 4) (v := .pointer (some ⟨bx, 1, none⟩)) rfl (by kernel_rfl) (by kernel_rfl) (by kernel_rfl) (fun _ _ _ h => absurd h.1 (by simp)) (Or.inl ⟨by rfl, fun w' hSw => ?_⟩) hHeld ?_
      · obtain ⟨k0, k1, k2, k3, k4, k5⟩ := hSw
        go_simp
      simp only [Act.put, List.setIfInBounds_toArray, List.set_cons_zero, List.set_cons_succ]
      refine wpAnyH_take (i := 5) (v := .int .i64 d) rfl (by kernel_rfl) (by kernel_rfl) (by kernel_rfl) (fun _ _ _ h => absurd h.1 (by simp)) (Or.inl ⟨by rfl, fun w' hSw => ?_⟩) hHeld ?_
      · obtain ⟨k0, k1, k2, k3, k4, k5⟩ := hSw
        go_simp
      simp only [Act.put, List.setIfInBounds_toArray, List.set_cons_zero, List.set_cons_succ]
      refine wpAnyH_take (i := 6) (v := .agg #[.int .i64 xe, .int .i64 d, .int .i64 xr, .bool xf]) rfl (by kernel_rfl) (by kernel_rfl) (by kernel_rfl) (fun _ _ _ h => absurd h.1 (by simp)) (Or.inl ⟨by rfl, fun w' hSw => ?_⟩) hHeld ?_
      · obtain ⟨k0, k1, k2, k3, k4, k5⟩ := hSw
        go_simp
      simp only [Act.put, List.setIfInBounds_toArray, List.set_cons_zero, List.set_cons_succ]
      refine wpAnyH_take (i := 7) (v := .pointer (some ⟨gs, d, none⟩)) rfl (by kernel_rfl) (by kernel_rfl) (by kernel_rfl) (fun _ _ _ h => absurd h.1 (by simp)) (Or.inl ⟨by rfl, fun w' hSw => ?_⟩) hHeld ?_
      · obtain ⟨k0, k1, k2, k3, k4, k5⟩ := hSw
        go_simp
      simp only [Act.put, List.setIfInBounds_toArray, List.set_cons_zero, List.set_cons_succ]
      have n8 : b8 ≠ gs := m1.k8.ne m1.sn (by decide)
      have n9 : b9 ≠ gs := m1.k9.ne m1.sn (by decide)
      have nx : bx ≠ gs := fun e => ngx e.symm
      have n8b : b8 ≠ gb := m1.k8.ne m1.by_ (by decide)
      have n9b : b9 ≠ gb := m1.k9.ne m1.by_ (by decide)
      have nxb : bx ≠ gb := fun e => nbx e.symm
      refine wpAnyH_ready (rs := [8]) (by kernel_rfl) (by simp) (AllReadyH.cons rfl (fun K hK => ?_) AllReadyH.nil)
      go_simp
      refine hK.out _ _ ?_ (fun hHeld => ?_)
      · refine ⟨?_, ?_, ?_, ?_, ?_, ?_⟩ <;> go_simp
      clear hK K
      try simp only [Act.put, List.setIfInBounds_toArray, List.set_cons_zero, List.set_cons_succ]
      refine wpAnyH_take (i := 9) (v := .pointer (some ⟨gb, d * 4, none⟩)) rfl (by kernel_rfl) (by kernel_rfl) (by kernel_rfl) (fun _ _ _ h => absurd h.1 (by simp)) (Or.inl ⟨by rfl, fun w' hSw => ?_⟩) hHeld ?_
      · obtain ⟨k0, k1, k2, k3, k4, k5⟩ := hSw
        go_simp
      simp only [Act.put, List.setIfInBounds_toArray, List.set_cons_zero, List.set_cons_succ]
      refine wpAnyH_ready (rs := [10]) (by kernel_rfl) (by simp) (AllReadyH.cons rfl (fun K hK => ?_) AllReadyH.nil)
      go_simp
      refine hK.out _ _ ?_ (fun hHeld => ?_)
      · refine ⟨?_, ?_, ?_, ?_, ?_, ?_⟩ <;> go_simp
      clear hK K
      refine wpAnyH_done (by kernel_rfl) ⟨rfl, hKK _ _ ?_⟩ _
      clear hHeld
      generalize hW2 : World.drew _ = W2
      obtain ⟨mm, hmod⟩ := m1.mark hd m2.lenS m2.lenB xe d xr xf hW2
      clear hW2 cb0 cb1 cb2 cb3 fb0 fb1 fb2 fb3 fg cg c8 c9 cx0 cx1 cx2 cx3 hKK
      have hO2 := hO.mod hmod (by rintro (e | e); exact nx e; exact nxb e)
      have cy1 := hO2.cell (i := 1) (by omega)
      dsimp only [encS, List.getElem?_cons_zero, List.getElem?_cons_succ, Option.getD_some] at cy1
      have c5 := mm.k5.cell (i := 0) (by omega)
      have hkf : ∀ B', KeepsFrom B' W1 W2 := fun B' => keepsFrom_mod hmod _ (fun k hk o ho => by
        rcases hk with rfl | rfl
        · exact m1.sn.cells ho
        · exact m1.by_.cells ho)
      have hs0 := hbw1.size
      have hz := Hsz.out
      have hb12 : Below w.heap.size W1 W2 := hmod.below m7.size (fun k _ hk => by rcases hk with rfl | rfl <;> omega)
      have hs2 := hmod.size
      by_cases hdt : d = t
      · subst hdt
        gi_wp2
        exact ⟨hkf _, rfl, v', _, _, xs', h + 1, mm, m2.found hd hnode m5 hxg rfl, m7.trans hb12, ⟨m8.1.keeps (hkf _), m8.2⟩, Nat.le_trans m10 hs2⟩
      · have hdt' : ¬ ((d : Int) = (t : Int)) := by omega
        gi_wp2
        have hxl' : xs'.length ≤ nn := by rw [← m2.cnt, ← m2.lenS]; exact List.count_le_length
        have hs1 := hm1.size
        have hhx : h < xs'.length := (List.getElem?_eq_some_iff.1 m4).1
        refine ⟨trivial, CallsIn.inRound l (callsIn_wide.2 ((fPush_any bq B v' xs' (h + 1) d W2 mm.qu (by omega) (by omega)).mono ?_))⟩
        rintro e w3 ⟨rfl, v3, hq3, hm3, hv3⟩
        have hkf3 : ∀ B', KeepsFrom B' W2 w3 := fun B' => keepsFrom_mod hm3 _ (fun k hk o ho => by
          rcases hk with rfl | hk
          · exact mm.qu.hd.cells ho
          · exact ownsRow_cells mm.qu.own hk ho)
        have hb23 : Below w.heap.size W2 w3 := hm3.below (by omega) (fun k _ hk => by
          rcases hk with rfl | hk
          · omega
          · have := (mm.qu.own.lt _ hk).1; omega)
        have l1 := hmem1.sn.lt
        have l2 := hmem1.by_.lt
        have l3 := hmem1.qu.hd.lt
        have hst : ∀ k, w1.heap.size ≤ k → k ≤ w1.heap.size + 1 → w3.heap[k]? = W1.heap[k]? := fun k k1 k2 =>
          (hm3.block k (by omega) (by
            rintro (e | e)
            · omega
            · have := m9 k e; omega)).trans (hmod.block k (by omega) (by rintro (e | e) <;> omega))
        have hs3 := hm3.size
        have hnr : ∀ {g : Nat} {ty : TypeId} {n : Nat} {f : Nat → Value}, Own W2 g ty n f → ty ≠ 115 → 3 ≠ ty → Own w3 g ty n f := fun ho h1 h2 => ho.mod hm3 (by
          rintro (e | e)
          · exact ho.ne mm.qu.hd h1 e
          · exact ownsRow_ne mm.qu.own ho h2 e)
        have hk5 : Own w3 b5 3 1 (fun _ => .int .i64 t) := mm.k5.mod hm3 (by
          rintro (e | e)
          · exact mm.k5.ne mm.qu.hd (by decide) e
          · have := (mm.qu.own.lt _ e).1
            have := mm.l5
            omega)
        have hset : ∀ u, bAt seen' u = true → bAt (seen'.set d true) u = true := fun u hu => by
          rw [bAt_set (by rw [m2.lenS]; exact hd), hu]; simp
        gi_wp2
        refine ⟨(hkf _).trans (hkf3 _), ⟨hb12.trans hb23, hst _ (by omega) (by omega), hst _ (by omega) (by omega)⟩, v3, _, _, _, ⟨hk5, hnr mm.k8 (by decide) (by decide), hnr mm.k9 (by decide) (by decide), hnr mm.sn (by decide) (by decide), hnr mm.by_ (by decide) (by decide), hq3, mm.l5⟩, m2.add hd hsd hdt hnode m5 hxg rfl, fun p u hp he => ?_, ?_, hset _ m5, fun y hy => ?_, m7.trans (hb12.trans hb23), ⟨(m8.1.keeps (hkf _)).keeps (hkf3 _), m8.2⟩, fun k hk => ?_, by omega⟩
        · rw [List.getElem?_append_left (by omega)] at he
          exact (m3 p u hp he).set (by rw [m2.lenS]; exact hd)
        · rw [List.getElem?_append_left hhx]; exact m4
        · rcases List.mem_append.1 hy with hy | hy
          · exact hset _ (m6 y hy)
          · rw [List.mem_singleton] at hy
            subst hy
            show bAt (seen'.set d true) d = true
            rw [bAt_set (by rw [m2.lenS]; exact hd)]; simp
        · rcases hv3 with hv3 | ⟨b, hv3, hb⟩
          · exact m9 k (hv3 ▸ hk)
          · rw [hv3] at hk
            cases hk
            omega
  case done =>
    rintro D ys W1 hD hS ⟨v', seen', st', xs', m1, m2, m3, m4, m5, m6, m7, m8, m9, m10⟩ hdf
    have hz := Hsz.out
    have hs1 := hm1.size
    refine And.intro (a := SInv gN nn N s t b5 b8 b9 bq gs gb B es fl w _ W1) ⟨v', seen', st', xs', h + 1, { target := .collected D, args := #[] } :: ds, m1, m2, fun p u hp he => (by
      by_cases hph : p < h
      · exact m3 p u hph he
      · have hph' : p = h := by omega
        subst hph'
        rw [m4] at he
        injection he with he
        have hu : node = u := by omega
        subst hu
        refine doneAt_of m5 (fun x hx => ?_)
        rw [← hS] at hx
        obtain ⟨y, hy, rfl⟩ := List.mem_map.1 hx
        exact m6 y hy), m7, by omega, marks_more m8 hD (by omega) hdf, ⟨_, _, _, _, _, _, _, _, _, _, _, _, _, _, _, _, _, _, _, _, _, _, _, _, _, _, _, _, _, _, _, _, _, _, _, _, _, _, _, _, _, _, _, _, _, _, _, _, _, _, _, _, _, rfl⟩⟩ (by rw [smu_eq m1, smu_eq hmem]; omega)
  case stop =>
    rintro D cd pre W1 hD hS ⟨rfl, v', seen', st', xs', h', m1, m2, m7, m8, m10⟩ hdf
    have hz := Hsz.out
    have hs1 := hm1.size
    gi_wp2
    exact hexit.out _ _ ⟨v', seen', st', xs', h', { target := .collected D, args := #[] } :: ds, m1, .inl m2, m7, marks_more m8 hD (by omega) hdf, ⟨_, _, _, _, _, _, _, _, _, _, _, _, _, _, _, _, _, _, _, _, _, _, _, _, _, _, _, _, _, _, _, _, _, _, _, _, _, _, _, _, _, _, _, _, _, _, _, _, _, _, _, _, _, rfl⟩⟩
end Go.Proofs.Ytgfcnkfmgpakkaa

