/-
Several texts in one: LimD, LimE, LimF0, LimF.
-/
import Derived.Test.YtoekpdnpncgeeaaGreatGLTreeA
import Derived.Test.YtoekpdnpncgeeaaGreatGLLimA
import Derived.Test.YtoekpdnpncgeeaaGreatGLTreeH
import Derived.Test.YtoekpdnpncgeeaaGreatGLSiteH
import Derived.Test.YtoekpdnpncgeeaaGreatGLTreeE
import Derived.Laws.EntriesVeiled
/-
The iterator over the phases of all conductors.
-/
namespace Go.Proofs.YtoekpdnpncgeeaaGreat
open Go.RowKit Go.Shelf
set_option linter.unusedVariables false
set_option linter.unusedSimpArgs false
/-- A phase of a conductor: number t stands for conductor t / 3, phase t % 3. -/
abbrev PlAt (n : Nat) : Type := { t : Nat // t < n * 3 }
theorem range_pre {m n : Nat} (h : m ≤ n) : List.range m <+: List.range n := by
  obtain ⟨d, rfl⟩ := Nat.le.dest h
  induction d with
  | zero => exact List.prefix_refl _
  | succ d ih =>
    refine (ih (by omega)).trans ?_
    rw [← Nat.add_assoc, List.range_succ]
    exact List.prefix_append _ _
theorem range_snoc (n : Nat) : List.range (n + 1) = List.range n ++ [n] := List.range_succ
end Go.Proofs.YtoekpdnpncgeeaaGreat
/-
limits.Limit and the reference's.
-/
namespace Go.Proofs.YtoekpdnpncgeeaaGreat
open Go.RowKit
set_option linter.unusedVariables false
set_option linter.unusedSimpArgs false
def limAt (s : GSite) (k : Nat) : Int := ((s.cons[k]?).map limV).getD 0
noncomputable def limO (s : GSite) (co : Int) : Int := if okCo s co = true then limAt s co.toNat else 0
/-- What Limit does. -/
def LiPost (w : World) (s : GSite) (co : Int) (e : Ending) (w' : World) : Prop := e = .returned (.tuple #[.int .i64 (limO s co), .int .i64 (errO (okCo s co))]) ∧ Below w.heap.size w w'
theorem limO_no {s : GSite} {co : Int} (h : okCo s co = false) : limO s co = 0 := by unfold limO; rw [h]; rfl
theorem limO_yes {s : GSite} {co : Int} (h : okCo s co = true) : limO s co = limAt s co.toNat := by unfold limO; rw [if_pos h]
end Go.Proofs.YtoekpdnpncgeeaaGreat
/-
Check: plain words, its result's cells, what holds between two phases.
-/
namespace Go.Proofs.YtoekpdnpncgeeaaGreat
open Go.RowKit Go.Shelf
set_option linter.unusedVariables false
set_option linter.unusedSimpArgs false
/-- Phase t % 3 of conductor t / 3 carries too much. -/
def chkL (s : GSite) (xs : List Int) (t : Nat) : Bool := decide (limAt s (t / 3) < loadS s (fI xs) s.chgs.length t)
noncomputable def vioO (s : GSite) (xs : List Int) : Option Nat := if loadB s xs = true then (List.range (s.cons.length * 3)).find? (chkL s xs) else none
def vioV (s : GSite) (xs : List Int) : Option Nat → Value
  | none => .agg #[.int .i64 0, .int .i64 0, .int .i64 0]
  | some t => .agg #[.int .i64 ((t / 3 : Nat) : Int), .int .i64 ((t % 3 : Nat) : Int), .int .i64 (loadS s (fI xs) s.chgs.length t)]
/-- What Check does. -/
def ChPost (w : World) (s : GSite) (xs : List Int) (e : Ending) (w' : World) : Prop := e = .returned (.tuple #[vioV s xs (vioO s xs), .bool (vioO s xs).isSome, .int .i64 (errO (loadB s xs))]) ∧ Below w.heap.size w w'
theorem vioO_no {s : GSite} {xs : List Int} (h : loadB s xs = false) : vioO s xs = none := by unfold vioO; rw [h]; rfl
theorem vioO_all {s : GSite} {xs : List Int} (h : loadB s xs = true) (ha : ∀ t, t < s.cons.length * 3 → chkL s xs t = false) : vioO s xs = none := by
  unfold vioO
  rw [if_pos h, List.find?_eq_none]
  intro t ht
  rw [ha t (List.mem_range.1 ht)]
  simp
theorem vioO_at {s : GSite} {xs : List Int} (h : loadB s xs = true) {t : Nat} (ht : t < s.cons.length * 3) (ha : ∀ i, i < t → chkL s xs i = false) (hc : chkL s xs t = true) : vioO s xs = some t := by
  unfold vioO
  rw [if_pos h]
  obtain ⟨d, hd⟩ := Nat.le.dest (Nat.succ_le_of_lt ht)
  have e1 : List.find? (chkL s xs) (List.range t) = none := by
    rw [List.find?_eq_none]
    intro i hi
    rw [ha i (List.mem_range.1 hi)]
    simp
  have e2 : List.find? (chkL s xs) (List.range (t + 1)) = some t := by
    rw [List.range_succ, List.find?_append, e1]
    simp [hc]
  obtain ⟨rest, hr⟩ := range_pre (m := t + 1) (n := s.cons.length * 3) ht
  rw [← hr, List.find?_append, e2]
  rfl
theorem results_c3 {P : Program} {fn : Func} {a b c : Tmp} {ta tb tc : TypeId} {tmps : Array Value} {ba bb bc : Nat} {u v x : Value} {w : World} (h : fn.results = #[.cell a ta, .cell b tb, .cell c tc]) (ha : tmps.getD a undef = .pointer (some ⟨ba, 0, none⟩)) (hb : tmps.getD b undef = .pointer (some ⟨bb, 0, none⟩)) (hc : tmps.getD c undef = .pointer (some ⟨bc, 0, none⟩))
    (hla : (loadVar ta ⟨ba, 0, none⟩).run P w = .ok u w) (hlb : (loadVar tb ⟨bb, 0, none⟩).run P w = .ok v w) (hlc : (loadVar tc ⟨bc, 0, none⟩).run P w = .ok x w) :
    (results fn tmps).run P w = .ok (.tuple #[u, v, x]) w := by
  have ha' : tmps[a]?.getD undef = .pointer (some ⟨ba, 0, none⟩) := by simpa using ha
  have hb' : tmps[b]?.getD undef = .pointer (some ⟨bb, 0, none⟩) := by simpa using hb
  have hc' : tmps[c]?.getD undef = .pointer (some ⟨bc, 0, none⟩) := by simpa using hc
  simp [results, h, ha', hb', hc', hla, hlb, hlc, asAddr]
def v3F (x y z : Int) (i : Nat) : Value := if i = 0 then .int .i64 x else if i = 1 then .int .i64 y else .int .i64 z
theorem load_errno {W : World} {b : Nat} {v : Int} (h : Own W b 41 1 (fun _ => .int .i64 v)) : (loadVar 41 ⟨b, 0, none⟩).run Tryz.prog W = .ok (.int .i64 v) W := by
  have c0 := h.cell (i := 0) (by omega)
  go_simp
theorem Own.set3 {w : World} {g : Nat} {t : TypeId} {a b c : Int} (h : Own w g t 3 (v3F a b c)) (x y z : Int) : Own (((w.setCell ⟨g, 0, none⟩ (.int .i64 x)).setCell ⟨g, 1, none⟩ (.int .i64 y)).setCell ⟨g, 2, none⟩ (.int .i64 z)) g t 3 (v3F x y z) :=
  (((h.set 0 _).set 1 _).set 2 _).congr (fun i hi => by
    rcases i with _ | _ | _ | i
    · simp [v3F]
    · simp [v3F]
    · simp [v3F]
    · omega)
theorem Own.three (w : World) (t : TypeId) (x y z : Int) : Own (w.alloc (.cells #[.int .i64 x, .int .i64 y, .int .i64 z] t)) w.heap.size t 3 (v3F x y z) := by
  refine (Own.new w t #[.int .i64 x, .int .i64 y, .int .i64 z] undef).congr (fun i hi => ?_)
  have hi' : i < 3 := hi
  rcases i with _ | _ | _ | i
  all_goals first | rfl | omega
theorem Rd.ncL {α : Type} {sz : Nat} {enc : α → List Value} {xs : List α} {B : Nat} {W W' : World} {A : Option Addr} (hr : Rd sz enc W A xs) (hn : Nc B W W') : Rd sz enc W' A xs := by
  intro h0
  obtain ⟨b, off, hA, hlt, hc⟩ := hr h0
  refine ⟨b, off, hA, ?_, fun k x hx j v hv => cell_nc1 (hc k x hx j v hv) hn⟩
  obtain ⟨row, hg, _⟩ := hn
  exact Nat.lt_of_lt_of_le hlt hg.size
/-- One load, read. -/
theorem load_at {w : World} {A : Option Addr} {n : Nat} {F : Nat → Int} (h : Rd 3 enc3 w A ((List.range n).map (row3 F))) {k p : Nat} (hk : k < n) (hp : p < 3) : ∃ b off, A = some ⟨b, off, none⟩ ∧ b < w.heap.size ∧ w.cell? ⟨b, off + k * 3 + p, none⟩ = some (.int .i64 (F (k * 3 + p))) := by
  obtain ⟨b, off, e, hA, hb, hx, hc⟩ := h.at_ (k := k) (by simpa using hk)
  rw [List.getElem?_map, List.getElem?_range hk] at hx
  injection hx with hx
  subst hx
  refine ⟨b, off, hA, hb, ?_⟩
  match p, hp with
  | 0, _ => exact hc 0 _ rfl
  | 1, _ => exact hc 1 _ rfl
  | 2, _ => exact hc 2 _ rfl
section
variable {w W W' : World} {a1 : Option Addr} {n1 c1 : Nat} {a2 : Option Addr} {n2 c2 : Nat} {a3 : Option Addr} {n3 c3 : Nat} {a4 : Option Addr} {n4 c4 : Nat} {a5 : Option Addr} {n5 c5 : Nat} {X : Nat} {aL : Option Addr} {cL : Nat} {F : Nat → Int} {r0 r1 r2 : Int} {rb : Bool} {re : Int}
end
/-- The world in which the result is written. -/
abbrev chW (w W : World) (r0 r1 r2 : Int) (rb : Bool) (re : Int) : World := ((((W.setCell ⟨w.heap.size + 1, 0, none⟩ (.int .i64 r0)).setCell ⟨w.heap.size + 1, 1, none⟩ (.int .i64 r1)).setCell ⟨w.heap.size + 1, 2, none⟩ (.int .i64 r2)).setCell ⟨w.heap.size + 2, 0, none⟩ (.bool rb)).setCell ⟨w.heap.size + 3, 0, none⟩ (.int .i64 re)
theorem chW_mod (w W : World) (r0 r1 r2 : Int) (rb : Bool) (re : Int) : Mod (fun j => w.heap.size + 1 ≤ j ∧ j ≤ w.heap.size + 3) W (chW w W r0 r1 r2 rb re) := by
  have h1 : w.heap.size + 1 ≤ w.heap.size + 1 ∧ w.heap.size + 1 ≤ w.heap.size + 3 := by omega
  have h2 : w.heap.size + 1 ≤ w.heap.size + 2 ∧ w.heap.size + 2 ≤ w.heap.size + 3 := by omega
  have h3 : w.heap.size + 1 ≤ w.heap.size + 3 ∧ w.heap.size + 3 ≤ w.heap.size + 3 := by omega
  exact (((((Mod.refl _ W).setCell (p := ⟨w.heap.size + 1, 0, none⟩) (.inl h1) _).setCell (p := ⟨w.heap.size + 1, 1, none⟩) (.inl h1) _).setCell (p := ⟨w.heap.size + 1, 2, none⟩) (.inl h1) _).setCell (p := ⟨w.heap.size + 2, 0, none⟩) (.inl h2) _).setCell (p := ⟨w.heap.size + 3, 0, none⟩) (.inl h3) _
theorem keepsFrom_alloc (W : World) (o : Obj) (B : Nat) : KeepsFrom B W (W.alloc o) :=
  ⟨by simp, fun q o' _ ho _ => by rw [← ho]; exact ((Below.refl _ W).alloc (Nat.le_refl _) o).block q (Array.getElem?_eq_some_iff.1 ho).1⟩
theorem keepsFrom_below {W W' : World} (h : Below W.heap.size W W') {B : Nat} : KeepsFrom B W W' :=
  ⟨h.size, fun q o _ ho _ => by rw [← ho]; exact h.block q (Array.getElem?_eq_some_iff.1 ho).1⟩
theorem below_drew (W : World) : Below W.heap.size W W.drew := (Mod.refl (fun _ => False) W).drew.below (Nat.le_refl _) (fun _ _ h => h.elim)
theorem pre_range {n : Nat} {l : List Nat} (h : l <+: List.range n) : l = List.range l.length := by
  rw [List.prefix_iff_eq_take.1 h, List.take_range]
  simp
theorem pre_len {n : Nat} {l : List Nat} (h : l <+: List.range n) : l.length ≤ n := by
  have := h.length_le
  simpa using this
theorem keepsFrom_ch {w W : World} {qe : Int} (h3 : Own W (w.heap.size + 3) 41 1 (fun _ => .int .i64 qe)) (B : Nat) (hB : w.heap.size + 4 ≤ B) (r0 r1 r2 : Int) (rb : Bool) (re : Int) : KeepsFrom B W (chW w W r0 r1 r2 rb re) := by
  have hm := chW_mod w W r0 r1 r2 rb re
  refine ⟨hm.size, fun q o hq ho hoc => ?_⟩
  rw [← ho]
  exact hm.block q (Array.getElem?_eq_some_iff.1 ho).1 (by omega)
end Go.Proofs.YtoekpdnpncgeeaaGreat
/-
limits.Check, walked.
-/
namespace Go.Proofs.YtoekpdnpncgeeaaGreat
open Go.RowKit Go.Shelf
attribute [local go_sem] Oper.semAt_some
set_option linter.unusedVariables false
set_option linter.unusedSimpArgs false
/-- The frame in which the body begins. -/
def LcA (w : World) (M : Nat) (n1 : Nat) (x : PlAt n1) (a' : Act) (W : World) : Prop := ∃ X u0 u1 u3 u8 u10 u11 u12 u13 u14 u15 u16 u17 u18 u19 u20 u21 u22 u23 u24 u25 u26 u27 u28 u29 u30 u31 u32 u33 u34 u35 u36 u37 u38 u39 u40 u41 u42 u43 u44 u45 u46, a' = ⟨List.toArray (u0 :: u1 :: (.pointer (some ⟨w.heap.size, 0, none⟩)) :: u3 :: (.pointer (some ⟨w.heap.size + 1, 0, none⟩)) :: (.pointer (some ⟨w.heap.size + 2, 0, none⟩)) :: (.pointer (some ⟨w.heap.size + 3, 0, none⟩)) :: (.pointer (some ⟨M, 0, none⟩)) :: u8 :: (.pointer (some ⟨X, 0, none⟩)) :: u10 :: u11 :: u12 :: u13 :: u14 :: u15 :: u16 :: u17 :: u18 :: u19 :: u20 :: u21 :: u22 :: u23 :: u24 :: u25 :: u26 :: u27 :: u28 :: u29 :: u30 :: u31 :: u32 :: u33 :: u34 :: u35 :: u36 :: u37 :: u38 :: u39 :: u40 :: u41 :: u42 :: u43 :: u44 :: u45 :: u46 :: []), []⟩ ∧ W.cell? ⟨X, 0, none⟩ = some (.int .i64 ((x.1 / 3 : Nat) : Int)) ∧ W.cell? ⟨X, 1, none⟩ = some (.int .i64 ((x.1 % 3 : Nat) : Int))
end Go.Proofs.YtoekpdnpncgeeaaGreat
