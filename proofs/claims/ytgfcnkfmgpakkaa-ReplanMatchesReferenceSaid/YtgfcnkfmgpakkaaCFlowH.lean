/-
The rows of edges at each node: words for memory, and the contract of newNetwork.
-/
import Derived.Test.YtgfcnkfmgpakkaaGFlowA
import Derived.Test.YtgfcnkfmgpakkaaGBase
import Derived.Deep.AppendLies
import Derived.Deep.DeepCutAuto
import Derived.Deep.RegionLaw
import Derived.Deep.RegionHeld3
import Derived.OwnWalk
namespace Go.Proofs.Ytgfcnkfmgpakkaa
open Go.RowKit

/-- A row of n slices of ints in block g: slice u is the call's own, and holds L u. -/
def Rows2 (w : World) (base g n : Nat) (L : Nat → List Int) : Prop :=
  ∃ vs : Nat → Value, Own w g 23 n vs ∧ g < base ∧ (∀ u, u < n → w.ownsRow base 3 1 (vs u) (L u).length ((L u).map (Value.int .i64))) ∧
    ∀ u u', u < n → u' < n → u ≠ u' → (vs u).ownBlock = none ∨ (vs u).ownBlock ≠ (vs u').ownBlock

theorem ownsRow_shape {w : World} {base : Nat} {e : TypeId} {size : Nat} {v : Value} {n : Nat} {xs : List Value} (h : w.ownsRow base e size v n xs) : ∃ a c, v = .slice a n c := by
  rcases h.2 with ⟨h1, h2⟩ | ⟨g, cap, cur, hv, _⟩
  · exact ⟨none, 0, by rw [h1, h2]⟩
  · exact ⟨_, cap, hv⟩
theorem ownsRow_ne {w : World} {base : Nat} {e : TypeId} {size : Nat} {v : Value} {n : Nat} {xs : List Value} (h : w.ownsRow base e size v n xs) {g : Nat} {t : TypeId} {m : Nat} {f : Nat → Value} (hg : Own w g t m f) (hne : e ≠ t) : v.ownBlock ≠ some g := by
  rcases h.2 with ⟨rfl, _⟩ | ⟨g', cap, cur, rfl, _, hh, _⟩
  · simp [Value.ownBlock]
  · intro he
    have : g' = g := by simpa [Value.ownBlock] using he
    subst this
    obtain ⟨cs, hb, _⟩ := hg
    rw [hh] at hb
    injection hb with hb
    injection hb with _ ht
    exact hne ht
theorem Rows2.congr {w : World} {base g n : Nat} {L L' : Nat → List Int} (h : Rows2 w base g n L) (e : ∀ u, u < n → L u = L' u) : Rows2 w base g n L' := by
  obtain ⟨vs, h1, h2, h3, h4⟩ := h
  exact ⟨vs, h1, h2, fun u hu => by rw [← e u hu]; exact h3 u hu, h4⟩
theorem Rows2.new {w : World} {base g n : Nat} (h : Own w g 23 n (fun _ => .slice none 0 0)) (hg : g < base) : Rows2 w base g n (fun _ => []) :=
  ⟨_, h, hg, fun _ _ => World.ownsRow_nil _ _ _ _, fun _ _ _ _ _ => .inl rfl⟩
theorem ownsRow_drewN {w : World} {base : Nat} {e : TypeId} {size : Nat} {v : Value} {n : Nat} {xs : List Value} (h : w.ownsRow base e size v n xs) (k : Nat) : (w.drewN k).ownsRow base e size v n xs := h
theorem Rows2.drew {w : World} {base g n : Nat} {L : Nat → List Int} (h : Rows2 w base g n L) : Rows2 w.drew base g n L := h
theorem Rows2.alloc {w : World} {base g n : Nat} {L : Nat → List Int} (h : Rows2 w base g n L) (o : Obj) : Rows2 (w.alloc o) base g n L := by
  obtain ⟨vs, h1, h2, h3, h4⟩ := h
  exact ⟨vs, h1.alloc o, h2, fun u hu => (h3 u hu).alloc o, h4⟩
/-- What an append to row u0, stored back, leaves. -/
theorem Rows2.push {w w1 : World} {base g n : Nat} {L : Nat → List Int} {vs : Nat → Value} (h1 : Own w g 23 n vs) (h2 : g < base) (h3 : ∀ u, u < n → w.ownsRow base 3 1 (vs u) (L u).length ((L u).map (Value.int .i64)))
    (h4 : ∀ u u', u < n → u' < n → u ≠ u' → (vs u).ownBlock = none ∨ (vs u).ownBlock ≠ (vs u').ownBlock)
    {u0 : Nat} (hu0 : u0 < n) {x : Int} {gg cap : Nat} (hown : w1.ownsRow base 3 1 (.slice (some ⟨gg, 0, none⟩) ((L u0).length + 1) cap) ((L u0).length + 1) ((L u0).map (Value.int .i64) ++ [.int .i64 x]))
    (hgrow : w.grownBy w1 (vs u0).ownBlock) (hat : (vs u0).ownBlock = some gg ∨ gg = w.heap.size) :
    Rows2 (w1.setCell ⟨g, u0, none⟩ (.slice (some ⟨gg, 0, none⟩) ((L u0).length + 1) cap)) base g n (fun u => if u = u0 then L u0 ++ [x] else L u) := by
  refine ⟨fun u => if u = u0 then .slice (some ⟨gg, 0, none⟩) ((L u0).length + 1) cap else vs u, ?_, h2, fun u hu => ?_, fun u u' hu hu' hne => ?_⟩
  · refine Own.set ?_ u0 _
    have hl := h1.lt
    obtain ⟨cs, hb, hs, hc⟩ := h1
    refine ⟨cs, (hgrow.block g hl ?_).trans hb, hs, hc⟩
    intro e
    have := (h3 u0 hu0).lt g e.symm
    omega
  · by_cases e : u = u0
    · simp only [e, if_true, List.length_append, List.length_cons, List.length_nil, List.map_append, List.map_cons, List.map_nil]
      exact ownsRow_setCell_below hown h2 _
    · simp only [e, if_false]
      exact ownsRow_setCell_below ((h3 u hu).kept hgrow (h4 u u0 hu hu0 e)) h2 _
  · by_cases e : u = u0 <;> by_cases e' : u' = u0
    · omega
    · simp only [e, e', if_true, if_false]
      right
      intro hx
      have hx2 : (vs u').ownBlock = some gg := hx.symm
      rcases hat with ha | ha
      · rcases h4 u' u0 hu' hu0 e' with z | z
        · rw [z] at hx2; cases hx2
        · exact z (hx2.trans ha.symm)
      · have := (h3 u' hu').lt gg hx2
        omega
    · simp only [e, e', if_true, if_false]
      rcases h4 u u0 hu hu0 e with z | z
      · exact .inl z
      · right
        intro hx
        have hx2 : (vs u).ownBlock = some gg := hx
        rcases hat with ha | ha
        · exact z (hx2.trans ha.symm)
        · have := (h3 u hu).lt gg hx2
          omega
    · simp only [e, e', if_false]
      exact h4 u u' hu hu' hne

/-- The edges at node u among the first k. -/
def inc (es : List GEdge) (k : Nat) (u : Nat) : List Int := ((List.range k).filter (fun i => (eAt es i).frm = u ∨ (eAt es i).to = u)).map (fun (i : Nat) => (i : Int))
theorem inc_zero (es : List GEdge) (u : Nat) : inc es 0 u = [] := rfl
theorem inc_succ (es : List GEdge) (k : Nat) (u : Nat) : inc es (k + 1) u = inc es k u ++ (if (eAt es k).frm = u ∨ (eAt es k).to = u then [(k : Int)] else []) := by
  unfold inc
  rw [List.range_succ, List.filter_append, List.map_append]
  congr 1
  by_cases h : (eAt es k).frm = u ∨ (eAt es k).to = u
  · simp [h]
  · simp [h]
theorem inc_length (es : List GEdge) (k : Nat) (u : Nat) : (inc es k u).length ≤ k := by
  unfold inc
  rw [List.length_map]
  exact Nat.le_trans (List.length_filter_le _ _) (by simp)

theorem infoInts : (Try.prog.info? 23).map (fun i => (i.zero, i.size, i.bytes)) = some (some (.slice none 0 0), 1, 24) := by kernel_rfl

theorem grow_own {w w1 : World} {o : Obj} {row : Option Nat} (hg : (w.alloc o).drew.grownBy w1 row) {g : Nat} {t : TypeId} {n : Nat} {f : Nat → Value} (h : Own w g t n f) (hr : row ≠ some g) : Own w1 g t n f := by
  have h1 : Own (w.alloc o).drew g t n f := (h.alloc o).drew
  have hl := h1.lt
  obtain ⟨cs, hb, hs, hc⟩ := h1
  exact ⟨cs, (hg.block g hl (fun e => hr e.symm)).trans hb, hs, hc⟩
theorem grow_cell {w w1 : World} {o : Obj} {row : Option Nat} (hg : (w.alloc o).drew.grownBy w1 row) {p : Addr} {v : Value} (h : w.cell? p = some v) (hp : p.block < w.heap.size) (hr : row ≠ some p.block) : w1.cell? p = some v := by
  rw [← h, ← World.cell?_alloc_lt w o p hp]
  exact World.cell?_of_block (hg.block p.block (by show p.block < (w.heap.push o).size; simp; omega) (fun e => hr e.symm))
theorem Mod.grow1 {M : Nat → Prop} {a w w1 : World} {o : Obj} {row : Option Nat} (h : Mod M a w) (hg : (w.alloc o).drew.grownBy w1 row) (hr : ∀ k, row = some k → M k ∨ a.heap.size ≤ k) : Mod M a w1 := ((h.alloc o).drew).grown hg hr
def netCell (nn : Nat) (A : Option Addr) (N c gF gA : Nat) (i : Nat) : Value :=
  if i = 0 then .int .i64 nn else if i = 1 then .slice A N c else if i = 2 then .slice (some ⟨gF, 0, none⟩) N N else .slice (some ⟨gA, 0, none⟩) nn nn

/-- A network in memory: its graph, its flow, the edges at each node. -/
structure Net (w : World) (gN gF gA base : Nat) (nn : Nat) (A : Option Addr) (N c : Nat) (es : List GEdge) (fl : List Int) : Prop where
  hd : Own w gN 105 4 (netCell nn A N c gF gA)
  flow : Own w gF 3 N (fun i => .int .i64 (fAt fl i))
  rows : Rows2 w base gA nn (inc es N)
  ltN : gN < base
  ltF : gF < base
  ltB : base ≤ w.heap.size
  len : fl.length = N

theorem Own.ne {w : World} {g g' : Nat} {t t' : TypeId} {n n' : Nat} {f f' : Nat → Value} (h : Own w g t n f) (h' : Own w g' t' n' f') (hne : t ≠ t') : g ≠ g' := by
  rintro rfl
  obtain ⟨cs, hb, _⟩ := h
  obtain ⟨cs', hb', _⟩ := h'
  rw [hb] at hb'
  injection hb' with hb'
  injection hb' with _ ht
  exact hne ht

theorem Own.newAt (w : World) (t : TypeId) (cs : Array Value) (g : Nat) (hg : w.heap.size = g) {n : Nat} (hn : cs.size = n) {f : Nat → Value} (hf : ∀ i, i < n → cs[i]? = some (f i)) : Own (w.alloc (.cells cs t)) g t n f := by
  subst hg hn
  exact (Own.new w t cs (.bool false)).congr (fun i hi => by rw [hf i hi]; rfl)
theorem Own.madeAt (w : World) (t : TypeId) (z : Value) (n g : Nat) (hg : w.heap.size = g) : Own (w.alloc (.cells (madeCells #[z] n) t)) g t n (fun _ => z) := by
  subst hg
  exact (Own.made w t #[z] n).congr (fun i _ => by simp [Nat.mod_one])
theorem net_cells (nn : Nat) (A : Option Addr) (N c gF gA : Nat) : ∀ i, i < 4 → (#[Value.int .i64 nn, .slice A N c, .slice (some ⟨gF, 0, none⟩) N N, .slice (some ⟨gA, 0, none⟩) nn nn] : Array Value)[i]? = some (netCell nn A N c gF gA i) := by
  intro i hi
  match i, hi with
  | 0, _ => rfl
  | 1, _ => rfl
  | 2, _ => rfl
  | 3, _ => rfl
def edgeCell (e : GEdge) (i : Nat) : Value := if i = 0 then .int .i64 e.frm else if i = 1 then .int .i64 e.to else .int .i64 e.cap
theorem edge_cells (e : GEdge) : ∀ i, i < 3 → (#[Value.int .i64 e.frm, .int .i64 e.to, .int .i64 e.cap] : Array Value)[i]? = some (edgeCell e i) := by
  intro i hi
  match i, hi with
  | 0, _ => rfl
  | 1, _ => rfl
  | 2, _ => rfl
def NewPost (w : World) (nn : Nat) (A : Option Addr) (N c : Nat) (es : List GEdge) (e : Ending) (w' : World) : Prop :=
  ∃ gN gF gA base, e = .returned (.pointer (some ⟨gN, 0, none⟩)) ∧ Net w' gN gF gA base nn A N c es (List.replicate N 0) ∧ w.heap.size ≤ gN ∧ w.heap.size ≤ gF ∧ w.heap.size ≤ gA ∧ Below w.heap.size w w'

noncomputable def newReg7 : Code := ((Try.f84.body.bind (findRegion 7)).getD .skip)
set_option maxHeartbeats 1000000 in
set_option maxRecDepth 100000 in
/-- The second append of newNetwork: 'n.at[e.To] = append(n.at[e.To], i)'. -/
theorem newReg7_ok (W w1 : World) (k gN gA bx nn LL C0 gg cap : Nat) (A0 : Option Addr) (e : GEdge) (vv : Value) (K : Act → World → Prop) (o3 : 0 ≤ e.to) (tK' : e.to < nn)
  (m1 : W.cell? ⟨bx, 1, none⟩ = some (.int .i64 e.to)) (n3 : W.cell? ⟨gN, 3, none⟩ = some (.slice (some ⟨gA, 0, none⟩) nn nn)) (a0 : W.cell? ⟨gA, e.to.toNat, none⟩ = some (.slice A0 LL C0))
  (lgA : gA < W.heap.size) (lgN : gN < W.heap.size) (lgB : bx < W.heap.size)
  (ap1 : Appends Try.prog (W.alloc (.cells #[.int .i64 k] 3)).drew 23 23 (.slice A0 LL C0) (.slice (some ⟨W.heap.size, 0, none⟩) 1 1))
  (ap2 : appV Try.prog (W.alloc (.cells #[.int .i64 k] 3)).drew 23 23 (.slice A0 LL C0) (.slice (some ⟨W.heap.size, 0, none⟩) 1 1) = .slice (some ⟨gg, 0, none⟩) (LL + 1) cap)
  (ap3 : appW Try.prog (W.alloc (.cells #[.int .i64 k] 3)).drew 23 23 (.slice A0 LL C0) (.slice (some ⟨W.heap.size, 0, none⟩) 1 1) = w1)
  (a1 : w1.cell? ⟨gA, e.to.toNat, none⟩ = some vv) (a2 : w1.frozen? ⟨gA, e.to.toNat, none⟩ = false) (a3 : w1.cell? ⟨gN, 3, none⟩ = some (.slice (some ⟨gA, 0, none⟩) nn nn)) (a4 : w1.cell? ⟨bx, 1, none⟩ = some (.int .i64 e.to))
  (u0 u1 u2 u6 u7 u8 u9 u10 u11 u12 u13 u14 u15 u16 u17 u18 u19 u20 u21 u22 u23 u24 u25 u26 u27 u28 u29 u30 u31 u32 u33 u34 u35 u36 u37 u38 u39 u40 u41 u42 u43 u44 u45 u46 u47 u48 u49 u50 u51 u52 u53 u54 u55 u56 u57 u58 u59 u60 u61 u62 u63 u64 u65 u66 : Value)
  (HK : Hid (∀ v47 v48 v49 v50 v51 v52 v53 v54 v55 v56 v57 v58 v59 v60 v61 v62 v63 v64 : Value, K ⟨List.toArray (u0 :: u1 :: u2 :: (.pointer (some ⟨gN, 0, none⟩)) :: (.int .i64 k) :: (.pointer (some ⟨bx, 0, none⟩)) :: u6 :: u7 :: u8 :: u9 :: u10 :: u11 :: u12 :: u13 :: u14 :: u15 :: u16 :: u17 :: u18 :: u19 :: u20 :: u21 :: u22 :: u23 :: u24 :: u25 :: u26 :: u27 :: u28 :: u29 :: u30 :: u31 :: u32 :: u33 :: u34 :: u35 :: u36 :: u37 :: u38 :: u39 :: u40 :: u41 :: u42 :: u43 :: u44 :: u45 :: u46 :: v47 :: v48 :: v49 :: v50 :: v51 :: v52 :: v53 :: v54 :: v55 :: v56 :: v57 :: v58 :: v59 :: v60 :: v61 :: v62 :: v63 :: v64 :: u65 :: u66 :: []), []⟩ (w1.setCell ⟨gA, e.to.toNat, none⟩ (.slice (some ⟨gg, 0, none⟩) (LL + 1) cap)))) :
  Code.wp Try.prog newReg7 (Exit.then K fun _ _ _ => False) ⟨List.toArray (u0 :: u1 :: u2 :: (.pointer (some ⟨gN, 0, none⟩)) :: (.int .i64 k) :: (.pointer (some ⟨bx, 0, none⟩)) :: u6 :: u7 :: u8 :: u9 :: u10 :: u11 :: u12 :: u13 :: u14 :: u15 :: u16 :: u17 :: u18 :: u19 :: u20 :: u21 :: u22 :: u23 :: u24 :: u25 :: u26 :: u27 :: u28 :: u29 :: u30 :: u31 :: u32 :: u33 :: u34 :: u35 :: u36 :: u37 :: u38 :: u39 :: u40 :: u41 :: u42 :: u43 :: u44 :: u45 :: u46 :: u47 :: u48 :: u49 :: u50 :: u51 :: u52 :: u53 :: u54 :: u55 :: u56 :: u57 :: u58 :: u59 :: u60 :: u61 :: u62 :: u63 :: u64 :: u65 :: u66 :: []), []⟩ W := by
  conv => arg 2; whnf
  go_big_region
  exact HK.out _ _ _ _ _ _ _ _ _ _ _ _ _ _ _ _ _ _
set_option maxHeartbeats 3200000 in
set_option maxRecDepth 100000 in
theorem fNew_any (nn : Nat) (A : Option Addr) (c N : Nat) (es : List GEdge) (w : World) (hR : Rd 3 encE w A es) (HN : Hid (es.length = N)) (Hg : Hid (okG nn es = true)) :
    Calls Try.prog 84 #[.agg #[.int .i64 nn, .slice A N c]] w (NewPost w nn A N c es) := by
  obtain ⟨n1, n2, hl⟩ := (okG_iff.1 Hg.out).1
  rw [HN.out] at hl
  have hmk := mk_row (P := Try.prog) 23 3 (.int .i64 0) 1 8 Try.underlying23 infoInt N (by omega) (by omega) (by omega)
  have hmk2 := mk_row (P := Try.prog) 28 23 (.slice none 0 0) 1 24 Try.underlying28 infoInts nn (by omega) (by omega) (by omega)
  obtain ⟨i0, hi0, hz0, hz1, hz2⟩ := info_parts infoInt
  go_enter Try.func84, Try.ntmps84
  go_wp2_with fail
  go_cut [3] (fun s3 W => ∃ gN gF gA : Nat, s3 = .pointer (some ⟨gN, 0, none⟩) ∧ Own W gN 105 4 (netCell nn A N c gF gA) ∧ Own W gF 3 N (fun _ => .int .i64 0) ∧ Own W gA 23 nn (fun _ => .slice none 0 0) ∧ w.heap.size < gN ∧ w.heap.size < gF ∧ w.heap.size < gA ∧ Below (w.heap.size + 1) (w.alloc (.cells #[.int .i64 nn, .slice A N c] 68)) W)
  case first =>
    go_big_region
    · go_wp2_with fail
      go_meet
      refine ⟨w.heap.size + 1 + 1 + 1, w.heap.size + 1, w.heap.size + 1 + 1, rfl, ?_, ?_, ?_, by omega, by omega, by omega, ?_⟩
      · refine Own.drew ?_
        exact Own.newAt _ _ _ _ (by simp) (n := 4) rfl (net_cells nn A N c _ _)
      · refine Own.drew ((Own.alloc ?_ _).alloc _)
        exact Own.madeAt _ _ _ _ _ (by simp)
      · refine Own.drew (Own.alloc ?_ _)
        exact Own.madeAt _ _ _ _ _ (by simp)
      · refine Below.drew ?_
        exact (((Below.refl _ _).alloc (by simp) _).alloc (by simp) _).alloc (by simp) _
    · go_wp2_with fail
      go_meet
      refine ⟨w.heap.size + 1 + 1 + 1, w.heap.size + 1 + 1, w.heap.size + 1, rfl, ?_, ?_, ?_, by omega, by omega, by omega, ?_⟩
      · refine Own.drew ?_
        exact Own.newAt _ _ _ _ (by simp) (n := 4) rfl (net_cells nn A N c _ _)
      · refine Own.drew (Own.alloc ?_ _)
        exact Own.madeAt _ _ _ _ _ (by simp)
      · refine Own.drew ((Own.alloc ?_ _).alloc _)
        exact Own.madeAt _ _ _ _ _ (by simp)
      · refine Below.drew ?_
        exact (((Below.refl _ _).alloc (by simp) _).alloc (by simp) _).alloc (by simp) _
  case rest =>
    obtain ⟨gN, gF, gA, rfl, hN0, hF0, hA0, z1, z2, z3, hb0⟩ := hcut
    clear hmk hmk2
    have hbw : Below w.heap.size w wc := ((Below.refl _ w).alloc (Nat.le_refl _) _).trans (hb0.mono (by omega))
    have hc1 : wc.cell? ⟨w.heap.size, 1, none⟩ = some (.slice A N c) := (hb0.cell (p := ⟨w.heap.size, 1, none⟩) (by simp)).trans (by go_simp)
    have hR' := hR.keep hbw
    clear hb0
    go_wp2
    go_loopw [19] (fun i wr => ∃ k : Nat, k ≤ N ∧ i = .int .i64 k ∧ Rows2 wr wc.heap.size gA nn (inc es k) ∧ Own wr gN 105 4 (netCell nn A N c gF gA) ∧ Own wr gF 3 N (fun _ => .int .i64 0) ∧ Mod (fun b => b = gA) wc wr) (fun i _ => N - (intOf i).toNat)
    case atStart => exact ⟨0, Nat.zero_le _, rfl, Rows2.new hA0 hA0.lt, hN0, hF0, Mod.refl _ _⟩
    case round =>
      obtain ⟨k, hk, rfl, hrows, hN1, hF1, hm⟩ := hrel
      by_cases hlt : k < N
      · obtain ⟨b, off, e, rfl, hbl, he, g0, g1, g2⟩ := rdE_at hR' (k := k) (by rw [HN.out]; exact hlt)
        have ok := okG_at Hg.out (i := k) (by rw [HN.out]; exact hlt)
        have Hee : Hid (eAt es k = e) := by unfold Hid eAt; rw [he]; rfl
        rw [Hee.out] at ok
        obtain ⟨o1, o2, o3, o4, o5, o6⟩ := ok
        clear he
        have hbA : b ≠ gA := by
          rintro rfl
          obtain ⟨b', off', e', hA', hbl', _⟩ := rdE_at hR (k := k) (by rw [HN.out]; exact hlt)
          cases hA'
          omega
        replace g0 := (hm.cell (p := ⟨b, _, none⟩) hbl hbA).trans g0
        replace g1 := (hm.cell (p := ⟨b, _, none⟩) hbl hbA).trans g1
        replace g2 := (hm.cell (p := ⟨b, _, none⟩) hbl hbA).trans g2
        have hbl2 : b < wr.heap.size := Nat.lt_of_lt_of_le hbl hm.size
        have hzr := hm.size
        have fK : e.frm.toNat < nn := by omega
        have tK : e.to.toNat < nn := by omega
        have fK' : e.frm < (nn : Int) := by omega
        have tK' : e.to < (nn : Int) := by omega
        go_wp2_with fail
        refine wp_world (fun W => Rows2 W wc.heap.size gA nn (inc es k) ∧ Own W gN 105 4 (netCell nn (some ⟨b, off, none⟩) N c gF gA) ∧ Own W gF 3 N (fun _ => .int .i64 0) ∧ Own W wr.heap.size 70 3 (edgeCell e) ∧ Mod (fun b => b = gA) wc W ∧ wr.heap.size < W.heap.size) ?_ ?_
        · exact ⟨hrows.alloc _, hN1.alloc _, hF1.alloc _, Own.newAt _ _ _ _ rfl rfl (edge_cells e), hm.alloc _, by simp⟩
        clear hrows hN1 hF1 g0 g1 g2
        rintro W ⟨⟨vs, hA2, hgb, hown, hdis⟩, hN2, hF2, hB2, hm2, hzW⟩
        have m0 : W.cell? ⟨wr.heap.size, 0, none⟩ = some (.int .i64 e.frm) := hB2.cell (by omega)
        have m1 : W.cell? ⟨wr.heap.size, 1, none⟩ = some (.int .i64 e.to) := hB2.cell (by omega)
        have n3 : W.cell? ⟨gN, 3, none⟩ = some (.slice (some ⟨gA, 0, none⟩) nn nn) := hN2.cell (by omega)
        have a0 := hA2.cell fK
        have hv := hown _ fK
        have hlen := inc_length es k e.frm.toNat
        obtain ⟨A0, C0, hV⟩ := ownsRow_shape hv
        rw [hV] at hv a0
        have HV := Lib.hid hV; clear hV
        generalize hLL : (inc es k e.frm.toNat).length = LL at *
        have HLL := Lib.hid hLL; clear hLL
        have lgA := hA2.lt
        have lgN := hN2.lt
        have hrow : ∀ k, (Value.slice A0 LL C0).ownBlock = some k → wc.heap.size ≤ k := fun k hk => (hv.lt k hk).1
        have Hrow := Lib.hid hrow; clear hrow
        have lb := hm2.size
        have HrA := Lib.hid (ownsRow_ne hv hA2 (by decide))
        have HrN := Lib.hid (ownsRow_ne hv hN2 (by decide))
        have HrB := Lib.hid (ownsRow_ne hv hB2 (by decide))
        have HrF : Hid ((Value.slice A0 LL C0).ownBlock ≠ some gF) := fun e => by have := Hrow.out _ e; have := hF0.lt; omega
        have ne1 : gN ≠ gA := hN2.ne hA2 (by decide)
        have ne2 : wr.heap.size ≠ gA := hB2.ne hA2 (by decide)
        obtain ⟨gg, cap, w1, hrun, hown1, hgrow, hat, hgl⟩ := run_append_lies (P := Try.prog) (W.alloc (.cells #[.int .i64 k] 3)).drew 23 23 wc.heap.size 3 i0 _ 1 8 Try.underlying23 hi0 hz0 hz1 hz2 rfl (by omega) (.slice A0 LL C0) LL ((inc es k e.frm.toNat).map (Value.int .i64)) ((hv.alloc _).drew) ⟨W.heap.size, 0, none⟩ 1 1 [.int .i64 k] rfl (World.news_of_block (cs := #[.int .i64 k]) (t := 3) (fr := (0, 0)) (heap_alloc_new W _)) (by simp [Value.oneCell']) (by omega) (by unfold maxLen; omega) (by omega) (by simp; omega) (W.heap.size + 1) (by simp)
        obtain ⟨ap1, ap2, ap3⟩ := appends_of hrun
        clear hrun
        have hA3 := grow_own hgrow hA2 HrA.out
        have a1 := hA3.cell fK
        have a2 := hA3.frozen e.frm.toNat
        have hN3 := grow_own hgrow hN2 HrN.out
        have hB3 := grow_own hgrow hB2 HrB.out
        have a3 : w1.cell? ⟨gN, 3, none⟩ = some (.slice (some ⟨gA, 0, none⟩) nn nn) := hN3.cell (by omega)
        have a4 : w1.cell? ⟨wr.heap.size, 0, none⟩ = some (.int .i64 e.frm) := hB3.cell (by omega)
        go_big_region
        go_step
        go_step
        refine wp_world (fun W => Rows2 W wc.heap.size gA nn (fun u => if u = e.frm.toNat then inc es k e.frm.toNat ++ [(k : Int)] else inc es k u) ∧ Own W gN 105 4 (netCell nn (some ⟨b, off, none⟩) N c gF gA) ∧ Own W gF 3 N (fun _ => .int .i64 0) ∧ Own W wr.heap.size 70 3 (edgeCell e) ∧ Mod (fun b => b = gA) wc W) ?_ ?_
        · have hp := Rows2.push (w := (W.alloc (.cells #[.int .i64 k] 3)).drew) (w1 := w1) (x := (k : Int)) (gg := gg) (cap := cap) (hA2.alloc _).drew hgb (fun u hu => ((hown u hu).alloc _).drew) hdis fK (by rw [HLL.out]; exact hown1) (by rw [HV.out]; exact hgrow) (by rw [HV.out]; rcases hat with h | h; exact .inl h; exact .inr (by simp; exact h))
          rw [HLL.out] at hp
          have hF3 := grow_own hgrow hF2 HrF.out
          exact ⟨hp, hN3.other ne1 _, hF3.other (hF3.ne hA3 (by decide)) _, hB3.other ne2 _, (hm2.grow1 hgrow (fun k hk => .inr (Hrow.out k hk))).setCell (.inl rfl) _⟩
        clear hA2 hown hdis hN2 hF2 hB2 hm2 hzW m0 m1 n3 a0 hv HV HLL hlen Hrow HrA HrN HrB HrF ne1 ne2 ap1 ap2 ap3 hA3 hN3 hB3 a1 a2 a3 a4 hown1 hgrow hat hgl lb lgA lgN
        rintro W ⟨hrows, hN2, hF2, hB2, hm2⟩
        have m0 : W.cell? ⟨wr.heap.size, 0, none⟩ = some (.int .i64 e.frm) := hB2.cell (by omega)
        have m1 : W.cell? ⟨wr.heap.size, 1, none⟩ = some (.int .i64 e.to) := hB2.cell (by omega)
        by_cases hft : e.to = e.frm
        · have hft' : (e.to != e.frm) = false := by simp [hft]
          have Hft := Lib.hid hft; clear hft
          go_wp2
          go_roundw
          case rel =>
            refine ⟨k + 1, hlt, natcast_succ k, hrows.congr (fun u hu => ?_), hN2, hF2, hm2⟩
            rw [inc_succ, Hee.out, Hft.out]
            by_cases hu2 : u = e.frm.toNat
            · rw [if_pos hu2, if_pos (.inl (by omega)), hu2]
            · rw [if_neg hu2, if_neg (by omega), List.append_nil]
          case measure => simp [intOf]; omega
        · have hft' : (e.to != e.frm) = true := by simp [hft]
          have Hft := Lib.hid hft
          have hne : e.to.toNat ≠ e.frm.toNat := by omega
          clear hft
          obtain ⟨vs, hA2, hgb, hown, hdis⟩ := hrows
          have n3 : W.cell? ⟨gN, 3, none⟩ = some (.slice (some ⟨gA, 0, none⟩) nn nn) := hN2.cell (by omega)
          have a0 := hA2.cell tK
          have hv := hown _ tK
          simp only [if_neg hne] at hv
          have hlen := inc_length es k e.to.toNat
          obtain ⟨A0, C0, hV⟩ := ownsRow_shape hv
          rw [hV] at hv a0
          have HV := Lib.hid hV; clear hV
          generalize hLL : (inc es k e.to.toNat).length = LL at *
          have HLL := Lib.hid hLL; clear hLL
          have lgA := hA2.lt
          have lgN := hN2.lt
          have lgB := hB2.lt
          have hrow : ∀ k, (Value.slice A0 LL C0).ownBlock = some k → wc.heap.size ≤ k := fun k hk => (hv.lt k hk).1
          have Hrow := Lib.hid hrow; clear hrow
          have lb := hm2.size
          have HrA := Lib.hid (ownsRow_ne hv hA2 (by decide))
          have HrN := Lib.hid (ownsRow_ne hv hN2 (by decide))
          have HrB := Lib.hid (ownsRow_ne hv hB2 (by decide))
          have HrF : Hid ((Value.slice A0 LL C0).ownBlock ≠ some gF) := fun e => by have := Hrow.out _ e; have := hF0.lt; omega
          have ne1 : gN ≠ gA := hN2.ne hA2 (by decide)
          have ne2 : wr.heap.size ≠ gA := hB2.ne hA2 (by decide)
          go_wp2_with fail
          obtain ⟨gg, cap, w1, hrun, hown1, hgrow, hat, hgl⟩ := run_append_lies (P := Try.prog) (W.alloc (.cells #[.int .i64 k] 3)).drew 23 23 wc.heap.size 3 i0 _ 1 8 Try.underlying23 hi0 hz0 hz1 hz2 rfl (by omega) (.slice A0 LL C0) LL ((inc es k e.to.toNat).map (Value.int .i64)) ((hv.alloc _).drew) ⟨W.heap.size, 0, none⟩ 1 1 [.int .i64 k] rfl (World.news_of_block (cs := #[.int .i64 k]) (t := 3) (fr := (0, 0)) (heap_alloc_new W _)) (by simp [Value.oneCell']) (by omega) (by unfold maxLen; omega) (by omega) (by simp; omega) (W.heap.size + 1) (by simp)
          obtain ⟨ap1, ap2, ap3⟩ := appends_of hrun
          clear hrun
          have hA3 := grow_own hgrow hA2 HrA.out
          have a1 := hA3.cell tK
          have a2 := hA3.frozen e.to.toNat
          have hN3 := grow_own hgrow hN2 HrN.out
          have hB3 := grow_own hgrow hB2 HrB.out
          have a3 : w1.cell? ⟨gN, 3, none⟩ = some (.slice (some ⟨gA, 0, none⟩) nn nn) := hN3.cell (by omega)
          have a4 : w1.cell? ⟨wr.heap.size, 1, none⟩ = some (.int .i64 e.to) := hB3.cell (by omega)
          have PK := Lib.hid (And.intro hA2 (And.intro hown (And.intro hdis (And.intro hF2 (And.intro hm2 (And.intro hown1 (And.intro hgrow (And.intro hat (And.intro hA3 (And.intro hN3 hB3))))))))))
          clear hne hown hdis hF2 hm2 hown1 hgrow hat hA3 hN3 hB3 hA2 hN2 hB2 hv
          refine wp_normal (fun K hK => ?_)
          refine newReg7_ok W w1 k gN gA wr.heap.size nn LL C0 gg cap A0 e _ K o3 tK' m1 n3 a0 lgA lgN lgB ap1 ap2 ap3 a1 a2 a3 a4 _ _ _ _ _ _ _ _ _ _ _ _ _ _ _ _ _ _ _ _ _ _ _ _ _ _ _ _ _ _ _ _ _ _ _ _ _ _ _ _ _ _ _ _ _ _ _ _ _ _ _ _ _ _ _ _ _ _ _ _ _ _ _ _ ?_
          refine Lib.hid ?_
          intro v47 v48 v49 v50 v51 v52 v53 v54 v55 v56 v57 v58 v59 v60 v61 v62 v63 v64
          refine hK _ _ ?_
          clear hK K
          go_step
          go_wp2
          go_roundw
          case rel =>
            obtain ⟨hA2, hown, hdis, hF2, hm2, hown1, hgrow, hat, hA3, hN3, hB3⟩ := PK.out
            have hne : e.to.toNat ≠ e.frm.toNat := by have := Hft.out; omega
            have hp := Rows2.push (w := (W.alloc (.cells #[.int .i64 k] 3)).drew) (w1 := w1) (x := (k : Int)) (gg := gg) (cap := cap) (hA2.alloc _).drew hgb (fun u hu => ((hown u hu).alloc _).drew) hdis tK (by simp only [if_neg hne]; rw [HLL.out]; exact hown1) (by rw [HV.out]; exact hgrow) (by rw [HV.out]; rcases hat with h | h; exact .inl h; exact .inr (by simp; exact h))
            simp only [if_neg hne] at hp
            rw [HLL.out] at hp
            have hF3 := grow_own hgrow hF2 HrF.out
            refine ⟨k + 1, hlt, natcast_succ k, hp.congr (fun u hu => ?_), hN3.other ne1 _, hF3.other (hF3.ne hA3 (by decide)) _, (hm2.grow1 hgrow (fun k hk => .inr (Hrow.out k hk))).setCell (.inl rfl) _⟩
            rw [inc_succ, Hee.out]
            by_cases hu1 : u = e.to.toNat
            · rw [if_pos hu1, if_pos (.inr (by omega)), hu1]
            · rw [if_neg hu1]
              by_cases hu2 : u = e.frm.toNat
              · rw [if_pos hu2, if_pos (.inl (by omega)), hu2]
              · rw [if_neg hu2, if_neg (by omega), List.append_nil]
          case measure => simp [intOf]; omega
      · obtain rfl : k = N := by omega
        go_wp2
        go_ret
        refine ⟨gN, gF, gA, wc.heap.size, rfl, ⟨hN1, hF1.congr (fun i hi => ?_), hrows, hN0.lt, hF0.lt, hm.size, by simp⟩, by omega, by omega, by omega, ?_⟩
        · unfold fAt; simp [hi]
        · exact hbw.trans (hm.below hbw.size (fun k _ hk => by omega))
end Go.Proofs.Ytgfcnkfmgpakkaa
