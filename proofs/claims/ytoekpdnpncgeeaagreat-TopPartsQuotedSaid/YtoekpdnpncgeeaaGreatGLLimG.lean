/-
Several texts in one: LimG, LimH, LimI0, LimI, LimJ, LimK.
-/
import Derived.Test.YtoekpdnpncgeeaaGreatGLLimD
import Derived.Test.YtoekpdnpncgeeaaGreatGLApp
import Derived.Test.YtoekpdnpncgeeaaGreatGLRefA
import Derived.Test.YtoekpdnpncgeeaaGreatGLTreeH
import Derived.Laws.EntriesVeiled
import Derived.StillTailTactics
/-
Rows: plain words, a list of rows that grows, Rows' closure, choose.
-/
namespace Go.Proofs.YtoekpdnpncgeeaaGreat
open Go.RowKit
set_option linter.unusedVariables false
set_option linter.unusedSimpArgs false
structure GRow where
  cap : Int
  mem : List Int
deriving DecidableEq
def usesB (s : GSite) (p : Nat) (i : Int) : Bool := bitP (phOf s i.toNat) p
/-- The chargers below conductor t / 3 on phase t % 3. -/
def memL (s : GSite) (t : Nat) : List Int := (belowL s ((t / 3 : Nat) : Int) s.chgs.length).filter (usesB s (t % 3))
def rowsL (s : GSite) (m : Nat) : List GRow := (List.range m).filterMap (fun t => if (memL s t).length = 0 then none else some ⟨limAt s (t / 3), memL s t⟩)
noncomputable def rowsO (s : GSite) : List GRow := if okSB keyL s = true then rowsL s (s.cons.length * 3) else []
theorem rowsL_no {s : GSite} {t : Nat} (h : (memL s t).length = 0) : rowsL s (t + 1) = rowsL s t := by
  unfold rowsL
  have h' : memL s t = [] := List.length_eq_zero_iff.1 h
  rw [List.range_succ, List.filterMap_append]
  simp [h']
theorem rowsL_yes {s : GSite} {t : Nat} (h : ¬ (memL s t).length = 0) : rowsL s (t + 1) = rowsL s t ++ [⟨limAt s (t / 3), memL s t⟩] := by
  unfold rowsL
  have h' : ¬ memL s t = [] := fun e => h (by rw [e]; rfl)
  rw [List.range_succ, List.filterMap_append]
  simp [h']
theorem rowsL_len (s : GSite) (m : Nat) : (rowsL s m).length ≤ m := by
  unfold rowsL
  exact Nat.le_trans (List.length_filterMap_le _ _) (by simp)
theorem rowsO_no {s : GSite} (h : okSB keyL s = false) : rowsO s = [] := by unfold rowsO; rw [h]; rfl
theorem rowsO_yes {s : GSite} (h : okSB keyL s = true) : rowsO s = rowsL s (s.cons.length * 3) := by unfold rowsO; rw [if_pos h]
/-- A row's value: its cap, the slice of its members. -/
abbrev RowH : Type := Int × Option Addr × Nat × Nat
def encHd (h : RowH) : List Value := [.int .i64 h.1, .slice h.2.1 h.2.2.1 h.2.2.2]
theorem encHd_len (h : RowH) : (encHd h).length = 2 := rfl
theorem encHd_one (h : RowH) (u : Value) (hu : u ∈ encHd h) : u.oneCell' = true := by
  simp [encHd] at hu
  rcases hu with rfl | rfl <;> rfl
def MemOk (W : World) (h : RowH) (r : GRow) : Prop := h.1 = r.cap ∧ h.2.2.1 = r.mem.length ∧ Rd 1 encI W h.2.1 r.mem
/-- Rows that are read. -/
def RdRows (W : World) (A : Option Addr) (hs : List RowH) (rs : List GRow) : Prop := Rd 2 encHd W A hs ∧ hs.length = rs.length ∧ ∀ (k : Nat) (h : RowH) (r : GRow), hs[k]? = some h → rs[k]? = some r → MemOk W h r
theorem RdRows.keep {W W' : World} {A : Option Addr} {hs : List RowH} {rs : List GRow} (h : RdRows W A hs rs) (hb : Below W.heap.size W W') : RdRows W' A hs rs :=
  ⟨h.1.keep hb, h.2.1, fun k x r hx hr => ⟨(h.2.2 k x r hx hr).1, (h.2.2 k x r hx hr).2.1, (h.2.2 k x r hx hr).2.2.keep hb⟩⟩
theorem RdRows.nil (W : World) : RdRows W none [] [] := ⟨Rd.nil, rfl, fun k h r hx => by simp at hx⟩
/-- What Rows does. -/
def RwPost (w : World) (s : GSite) (e : Ending) (w' : World) : Prop := ∃ a c hs, e = .returned (.tuple #[.slice a (rowsO s).length c, .int .i64 (errO (okSB keyL s))]) ∧ RdRows w' a hs (rowsO s) ∧ Below w.heap.size w w'
theorem ownR_nc {α : Type} {t : TypeId} {sz : Nat} {enc : α → List Value} {B : Nat} {W W' : World} {base : Nat} {v : Value} {xs : List α} (h : OwnR t sz enc W base v xs) (hn : Nc B W W') : OwnR t sz enc W' base v xs := ownsRow_nc h hn
end Go.Proofs.YtoekpdnpncgeeaaGreat
/-
Rows' closure, choose.
-/
namespace Go.Proofs.YtoekpdnpncgeeaaGreat
open Go.RowKit
set_option linter.unusedVariables false
set_option linter.unusedSimpArgs false
/-- What choose does. -/
def CcPost (w : World) (ys : List Int) (e : Ending) (w' : World) : Prop := ∃ v, e = .returned v ∧ OwnL w' w.heap.size v ys ∧ Below w.heap.size w w'
theorem filter_snoc {α : Type} {f : α → Bool} {xs : List α} {k : Nat} {x : α} (h : xs[k]? = some x) : (xs.take (k + 1)).filter f = (xs.take k).filter f ++ (if f x = true then [x] else []) := by
  rw [take_snoc h, List.filter_append]
  cases hf : f x <;> simp [hf]
end Go.Proofs.YtoekpdnpncgeeaaGreat
/-
Rows: what holds between two phases.
-/
namespace Go.Proofs.YtoekpdnpncgeeaaGreat
open Go.RowKit
set_option linter.unusedVariables false
set_option linter.unusedSimpArgs false
theorem OwnR.taken {α : Type} {t : TypeId} {sz : Nat} {enc : α → List Value} {B : Nat} {W W' : World} {base : Nat} {v : Value} {xs : List α} (h : OwnR t sz enc W base v xs) (hT : Taken B W W') : OwnR t sz enc W' base v xs := by
  refine ⟨h.1, ?_⟩
  rcases h.2 with x | ⟨g, cap, cur, rfl, hb, hgg, rest⟩
  · exact .inl x
  · exact .inr ⟨g, cap, cur, rfl, hb, hT.2.2.2.2.2 g _ hgg rfl, rest⟩
theorem cell_taken {B : Nat} {W W' : World} (hT : Taken B W W') {p : Addr} {v : Value} (h : W.cell? p = some v) : W'.cell? p = some v := by
  unfold World.cell? at *
  cases hc : W.heap[p.block]? with
  | none => rw [hc] at h; simp at h
  | some o =>
    rw [hc] at h
    cases o with
    | cells cs t => rw [hT.2.2.2.2.2 _ _ hc rfl]; exact h
    | _ => simp at h
theorem Rd.takenL {α : Type} {sz : Nat} {enc : α → List Value} {A : Option Addr} {xs : List α} {B : Nat} {W W' : World} (hr : Rd sz enc W A xs) (hT : Taken B W W') : Rd sz enc W' A xs := by
  intro h0
  obtain ⟨b, off, hA, hlt, hc⟩ := hr h0
  exact ⟨b, off, hA, by rw [hT.2.2.2.1]; exact hlt, fun k x hx j v hv => cell_taken hT (hc k x hx j v hv)⟩
end Go.Proofs.YtoekpdnpncgeeaaGreat
/-
limits.Rows, walked.
-/
namespace Go.Proofs.YtoekpdnpncgeeaaGreat
open Go.RowKit Go.Shelf
attribute [local go_sem] Oper.semAt_some
set_option linter.unusedVariables false
set_option linter.unusedSimpArgs false
theorem belowL_bd (s : GSite) (co : Int) (m i : Nat) (hi : i < (belowL s co m).length) : 0 ≤ fI (belowL s co m) i ∧ fI (belowL s co m) i < m := by
  have h := List.getElem_mem hi
  unfold fI
  rw [List.getElem?_eq_getElem hi]
  generalize (belowL s co m)[i] = y at *
  unfold belowL at h
  obtain ⟨k, hk, rfl⟩ := List.mem_map.1 h
  have := List.mem_range.1 (List.mem_filter.1 hk).1
  simp
  omega
theorem snoc_range {n : Nat} {pre : List (PlAt n)} {q : List Nat} {t : Nat} (h : q = pre.map (fun (y : PlAt n) => y.1) ++ [t]) (ho : q = List.range (pre.length + 1)) : pre.map (fun (y : PlAt n) => y.1) = List.range pre.length ∧ t = pre.length := by
  rw [h, List.range_succ] at ho
  obtain ⟨h1, h2⟩ := List.append_inj ho (by simp)
  exact ⟨h1, by simpa using h2⟩
theorem mod_then {M : Nat → Prop} {W1 W W' : World} (h : Mod M W1 W) (hb : Below W.heap.size W W') : Mod M W1 W' :=
  ⟨hb.os.trans h.os, hb.tape.trans h.tape, hb.output.trans h.output, Nat.le_trans h.size hb.size, fun i hi hn => (hb.block i (Nat.lt_of_lt_of_le hi h.size)).trans (h.block i hi hn)⟩
theorem ownL_fresh {w : World} {base : Nat} {a : Option Addr} {n c : Nat} {xs : List Int} (h : OwnL w base (.slice a n c) xs) : ∀ x, a = some x → base ≤ x.block ∧ x.block < w.heap.size := by
  intro x hx
  rcases h.2 with ⟨h1, _⟩ | ⟨g, cap, cur, h1, hb, hg, _⟩
  · rw [hx] at h1; cases h1
  · rw [hx] at h1
    injection h1 with h1
    injection h1 with h1
    rw [h1]
    exact ⟨hb, (Array.getElem?_eq_some_iff.1 hg).1⟩
theorem cells14 {W W' : World} (hb : Below W.heap.size W W') {p0 p1 p2 p3 p4 p5 p6 p7 p8 p9 p10 p11 p12 p13 : Addr} {v0 v1 v2 v3 v4 v5 v6 v7 v8 v9 v10 v11 v12 v13 : Value} (h : W.cell? p0 = some v0 ∧ W.cell? p1 = some v1 ∧ W.cell? p2 = some v2 ∧ W.cell? p3 = some v3 ∧ W.cell? p4 = some v4 ∧ W.cell? p5 = some v5 ∧ W.cell? p6 = some v6 ∧ W.cell? p7 = some v7 ∧ W.cell? p8 = some v8 ∧ W.cell? p9 = some v9 ∧ W.cell? p10 = some v10 ∧ W.cell? p11 = some v11 ∧ W.cell? p12 = some v12 ∧ W.cell? p13 = some v13) : W'.cell? p0 = some v0 ∧ W'.cell? p1 = some v1 ∧ W'.cell? p2 = some v2 ∧ W'.cell? p3 = some v3 ∧ W'.cell? p4 = some v4 ∧ W'.cell? p5 = some v5 ∧ W'.cell? p6 = some v6 ∧ W'.cell? p7 = some v7 ∧ W'.cell? p8 = some v8 ∧ W'.cell? p9 = some v9 ∧ W'.cell? p10 = some v10 ∧ W'.cell? p11 = some v11 ∧ W'.cell? p12 = some v12 ∧ W'.cell? p13 = some v13 := by
  have cl : ∀ {p : Addr} {v : Value}, W.cell? p = some v → W'.cell? p = some v := fun {p v} hp => (hb.cell (World.block_lt_of_cell? W p hp)).trans hp
  obtain ⟨h0, h1, h2, h3, h4, h5, h6, h7, h8, h9, h10, h11, h12, h13⟩ := h
  exact ⟨cl h0, cl h1, cl h2, cl h3, cl h4, cl h5, cl h6, cl h7, cl h8, cl h9, cl h10, cl h11, cl h12, cl h13⟩
def plF (c p : Int) (i : Nat) : Value := if i = 0 then .int .i64 c else .int .i64 p
end Go.Proofs.YtoekpdnpncgeeaaGreat
/-
The reference's Same for rows.
-/
namespace Go.Proofs.YtoekpdnpncgeeaaGreat
open Go.RowKit
set_option linter.unusedVariables false
set_option linter.unusedSimpArgs false
end Go.Proofs.YtoekpdnpncgeeaaGreat
/-
Law 09: the example site; the site in its box.
-/
namespace Go.Proofs.YtoekpdnpncgeeaaGreat
open Go.RowKit
set_option linter.unusedVariables false
set_option linter.unusedSimpArgs false
theorem okName1 {b : UInt8} (h : 97 ≤ b.toNat ∧ b.toNat ≤ 122) (hk : ¬ [b] ∈ keyL) : okNameB keyL ⟨#[b]⟩ = true := by
  rw [okNameB_iff]
  refine ⟨⟨Nat.le_refl _, (by show 1 ≤ 12; omega), h, fun i h0 h1 => ?_⟩, ?_⟩
  · have h1' : i < 1 := h1
    omega
  · rw [ByteArray.toList_eq]
    exact hk
def exS : GSite := ⟨[⟨⟨#[102]⟩, -1, 32, 40, 25, 100, 0, 0, 0, 0, 0⟩, ⟨⟨#[99]⟩, 0, 20, 16, 0, 0, 0, 0, 0, 0, 0⟩], [⟨#[111]⟩], [], [⟨⟨#[97]⟩, 0, 1, 6, 32, 1, 0, 0⟩, ⟨⟨#[98]⟩, 1, 3, 6, 32, 1, 0, 0⟩], []⟩
theorem exS_ok : OkSite keyL exS := by
  refine ⟨by decide, by decide, by decide, by decide, by decide, by decide, ⟨?_, ?_⟩, ?_, ?_, by decide, ?_, ?_⟩
  · intro x hx
    have hx' : x ∈ [(⟨#[102]⟩ : ByteArray), ⟨#[99]⟩, ⟨#[111]⟩, ⟨#[97]⟩, ⟨#[98]⟩] := hx
    simp only [List.mem_cons, List.not_mem_nil, or_false] at hx'
    rcases hx' with rfl | rfl | rfl | rfl | rfl <;> exact okName1 (by decide) (by decide)
  · have e : (allNames exS).map (·.toList) = [[102], [99], [111], [97], [98]] := by
      show [(⟨#[102]⟩ : ByteArray), ⟨#[99]⟩, ⟨#[111]⟩, ⟨#[97]⟩, ⟨#[98]⟩].map (·.toList) = _
      simp only [List.map_cons, List.map_nil, ByteArray.toList_eq]
    rw [e]
    decide
  · intro i c hc
    match i, hc with
    | 0, hc => cases hc; decide
    | 1, hc => cases hc; decide
    | i + 2, hc => cases hc
  · intro c hc; cases hc
  · intro c hc
    have hc' : c ∈ [(⟨⟨#[97]⟩, 0, 1, 6, 32, 1, 0, 0⟩ : GChg), ⟨⟨#[98]⟩, 1, 3, 6, 32, 1, 0, 0⟩] := hc
    simp only [List.mem_cons, List.not_mem_nil, or_false] at hc'
    rcases hc' with rfl | rfl <;> decide
  · intro c hc; cases hc
theorem exS_B : okSB keyL exS = true := okSB_iff.2 exS_ok
theorem ex_o0 : okCo exS 0 = true := okCo_yes exS_B (by decide)
theorem ex_o1 : okCo exS 1 = true := okCo_yes exS_B (by decide)
theorem ex_o2 : okCo exS 2 = false := okCo_no2 (by decide)
theorem ex_l0 : limO exS 0 = 25 := by rw [limO_yes ex_o0]; rfl
theorem ex_l1 : limO exS 1 = 16 := by rw [limO_yes ex_o1]; rfl
theorem ex_l2 : limO exS 2 = 0 := limO_no ex_o2
theorem ex_rows : rowsO exS = [⟨25, [0, 1]⟩, ⟨25, [1]⟩, ⟨16, [1]⟩, ⟨16, [1]⟩] := by rw [rowsO_yes exS_B]; rfl
theorem ex_a : loadB exS [10, 16] = true := loadB_yes exS_B (by decide)
theorem ex_b : loadB exS [9, 16] = true := loadB_yes exS_B (by decide)
theorem ex_c : loadB exS [0, 17] = true := loadB_yes exS_B (by decide)
theorem ex_d : loadB exS [0] = false := loadB_no2 (by decide)
theorem ex_va : vioO exS [10, 16] = some 0 := by unfold vioO; rw [if_pos ex_a]; rfl
theorem ex_vb : vioO exS [9, 16] = none := by unfold vioO; rw [if_pos ex_b]; rfl
theorem ex_vc : vioO exS [0, 17] = some 3 := by unfold vioO; rw [if_pos ex_c]; rfl
theorem ex_vd : vioO exS [0] = none := vioO_no ex_d
theorem ex_wa : vioV exS [10, 16] (some 0) = .agg #[.int .i64 0, .int .i64 0, .int .i64 26] := rfl
theorem ex_wc : vioV exS [0, 17] (some 3) = .agg #[.int .i64 1, .int .i64 0, .int .i64 17] := rfl
theorem flatMap_at {α : Type} {sz : Nat} {enc : α → List Value} (hsz : ∀ x, (enc x).length = sz) : ∀ (xs : List α) (k : Nat) (x : α) (j : Nat), xs[k]? = some x → j < sz → (xs.flatMap enc)[k * sz + j]? = (enc x)[j]?
  | [], k, x, j, h, _ => by simp at h
  | y :: ys, 0, x, j, h, hj => by
    simp at h
    subst h
    rw [List.flatMap_cons, Nat.zero_mul, Nat.zero_add, List.getElem?_append_left (by rw [hsz]; exact hj)]
  | y :: ys, k + 1, x, j, h, hj => by
    rw [List.getElem?_cons_succ] at h
    rw [List.flatMap_cons, List.getElem?_append_right (by rw [hsz, Nat.succ_mul]; omega), hsz, show (k + 1) * sz + j - sz = k * sz + j by rw [Nat.succ_mul]; omega]
    exact flatMap_at hsz ys k x j h hj
/-- A literal slice, read. -/
theorem rd_lit {α : Type} {sz : Nat} {enc : α → List Value} (hsz : ∀ x, (enc x).length = sz) (W : World) (t : TypeId) (cs : Array Value) (xs : List α) (h : cs.toList = xs.flatMap enc) : Rd sz enc (W.alloc (.cells cs t)) (some ⟨W.heap.size, 0, none⟩) xs := by
  have hcs : cs = (xs.flatMap enc).toArray := by rw [← h]
  refine (Own.new W t cs undef).rd (sz := sz) ?_ hsz (fun k x hx j v hv => ?_)
  · have : cs.size = (xs.flatMap enc).length := by rw [hcs]; simp
    rw [this]
    clear h hcs this
    induction xs with
    | nil => simp
    | cons x xs ih => rw [List.flatMap_cons, List.length_append, hsz, List.length_cons, Nat.succ_mul]; omega
  · have hj : j < sz := by rw [← hsz x]; exact (List.getElem?_eq_some_iff.1 hv).1
    have := flatMap_at hsz xs k x j hx hj
    rw [hcs, List.getElem?_toArray, this, hv]
    rfl
/-- The site that came in, and its box X. -/
structure LwM (w W : World) (X : Nat) (a1 : Option Addr) (n1 c1 : Nat) (a2 : Option Addr) (n2 c2 : Nat) (a3 : Option Addr) (n3 c3 : Nat) (a4 : Option Addr) (n4 c4 : Nat) (a5 : Option Addr) (n5 c5 : Nat) (s : GSite) : Prop where
  bel : Below w.heap.size w W
  k0 : W.cell? ⟨X, 0, none⟩ = some (.slice a1 n1 c1)
  k1 : W.cell? ⟨X, 1, none⟩ = some (.slice a2 n2 c2)
  k2 : W.cell? ⟨X, 2, none⟩ = some (.slice a3 n3 c3)
  k3 : W.cell? ⟨X, 3, none⟩ = some (.slice a4 n4 c4)
  k4 : W.cell? ⟨X, 4, none⟩ = some (.slice a5 n5 c5)
  rs : RdSite W a1 a2 a3 a4 a5 n1 n2 n3 n4 n5 s
theorem LwM.keep {w W W' : World} {X : Nat} {a1 : Option Addr} {n1 c1 : Nat} {a2 : Option Addr} {n2 c2 : Nat} {a3 : Option Addr} {n3 c3 : Nat} {a4 : Option Addr} {n4 c4 : Nat} {a5 : Option Addr} {n5 c5 : Nat} {s : GSite} (h : LwM w W X a1 n1 c1 a2 n2 c2 a3 n3 c3 a4 n4 c4 a5 n5 c5 s) (hb : Below W.heap.size W W') : LwM w W' X a1 n1 c1 a2 n2 c2 a3 n3 c3 a4 n4 c4 a5 n5 c5 s := by
  have l := World.block_lt_of_cell? W _ h.k0
  exact ⟨below_then h.bel hb, (hb.cell (p := ⟨X, 0, none⟩) l).trans h.k0, (hb.cell (p := ⟨X, 1, none⟩) l).trans h.k1, (hb.cell (p := ⟨X, 2, none⟩) l).trans h.k2, (hb.cell (p := ⟨X, 3, none⟩) l).trans h.k3, (hb.cell (p := ⟨X, 4, none⟩) l).trans h.k4, h.rs.keep hb⟩
theorem LwM.mod {w W W' : World} {X : Nat} {a1 : Option Addr} {n1 c1 : Nat} {a2 : Option Addr} {n2 c2 : Nat} {a3 : Option Addr} {n3 c3 : Nat} {a4 : Option Addr} {n4 c4 : Nat} {a5 : Option Addr} {n5 c5 : Nat} {s : GSite} (h : LwM w W X a1 n1 c1 a2 n2 c2 a3 n3 c3 a4 n4 c4 a5 n5 c5 s) (hw : RdSite w a1 a2 a3 a4 a5 n1 n2 n3 n4 n5 s) {M : Nat → Prop} (hm : Mod M W W') (hX : ¬ M X) (hM : ∀ k, M k → w.heap.size ≤ k) : LwM w W' X a1 n1 c1 a2 n2 c2 a3 n3 c3 a4 n4 c4 a5 n5 c5 s := by
  have l := World.block_lt_of_cell? W _ h.k0
  have hb : Below w.heap.size w W' := h.bel.trans (hm.below h.bel.size (fun k _ hk => hM k hk))
  exact ⟨hb, (hm.cell (p := ⟨X, 0, none⟩) l hX).trans h.k0, (hm.cell (p := ⟨X, 1, none⟩) l hX).trans h.k1, (hm.cell (p := ⟨X, 2, none⟩) l hX).trans h.k2, (hm.cell (p := ⟨X, 3, none⟩) l hX).trans h.k3, (hm.cell (p := ⟨X, 4, none⟩) l hX).trans h.k4, hw.keep hb⟩
theorem loadsO_len (s : GSite) (xs : List Int) : (loadsO s xs).length ≤ 16 := by
  unfold loadsO
  by_cases h : loadB s xs = true
  · rw [if_pos h, loadsOf_len]
    unfold loadB at h
    rw [Bool.and_eq_true] at h
    exact (okSB_iff.1 h.1).n2
  · rw [if_neg h]; simp

/-- What example does. -/
def ExPost (w : World) (e : Ending) (w' : World) : Prop := ∃ a1 a2 a4, e = .returned (.agg #[.slice a1 2 2, .slice a2 1 1, .slice none 0 0, .slice a4 2 2, .slice none 0 0]) ∧ RdSite w' a1 a2 none a4 none 2 1 0 2 0 exS ∧ Below w.heap.size w w'
end Go.Proofs.YtoekpdnpncgeeaaGreat
