/-
Several texts in one: Open, OpenG, OpenJ, OpenK, Sized2.
-/
import Derived.Test.YtgfcnkfmgpakkaaGBase
import Derived.ProofKit
import Derived.Deep.Slices
import Derived.Test.YtgfcnkfmgpakkaaGFlowA
import Derived.Test.YtgfcnkfmgpakkaaProg
import Derived.Deep.Strs
import Derived.Test.YtgfcnkfmgpakkaaGPlanC
import Derived.Test.YtgfcnkfmgpakkaaGRepE
/-
Arguments opened: a slice of rows of any kind, read as a list.
-/
namespace Go.Proofs.Ytgfcnkfmgpakkaa
open Go.RowKit Go.ChangeShapes Go.WideShapes Go.Deep

theorem rd_open {H : Type} {henc : TypeId × Value → H} {P : Program} {w : World} {base : Nat} {spare : Nat → Bool} {held : Bool} {α : Type} {sz : Nat} {enc : α → List Value} {ok : α → Prop} {t e : TypeId} {fuel : Nat} {cs : List Value} {x : DataW H × List MemPlace}
    (ht : P.underlying t = some (.slice e)) (hc : P.cellsOf e = sz) (hs : 0 < sz)
    (hel : ∀ n cs' y, DataW.trod henc P w base spare held n e cs' = some y → ∃ a, cs' = enc a ∧ ok a)
    (h : DataW.trod henc P w base spare held fuel t cs = some x) :
    ∃ A len cap xs, cs = [.slice A len cap] ∧ xs.length = len ∧ len ≤ maxLen ∧ Rd sz enc w A xs ∧ ∀ a, a ∈ xs → ok a := by
  rcases open_slice ht h with ⟨h0, _⟩ | ⟨a, len, cap, m, n, D, Pl, hcs, hb, hl, hm, hmm, _, hx⟩
  · exact ⟨none, 0, 0, [], h0, rfl, Nat.zero_le _, Rd.nil, fun _ h => by cases h⟩
  · have hlm : len ≤ m := by rw [hmm]; split <;> omega
    rw [hc] at hx
    have each : ∀ i, i < len → ∃ y : α, ok y ∧ (enc y).length = sz ∧ ∀ j, j < sz → w.cell? (a.add (i * sz + j)) = (enc y)[j]? := by
      intro i hi
      obtain ⟨cs', h1, h2⟩ := hx i (by omega)
      obtain ⟨y, rfl, hy⟩ := hel _ _ _ h2
      obtain ⟨_, hlen, hcell⟩ := World.cells?_some h1
      refine ⟨y, hy, hlen, fun j hj => ?_⟩
      rw [← hcell j hj]
      congr 1
      unfold Addr.add
      by_cases h3 : i * sz = 0 <;> by_cases h4 : j = 0
      · simp [h3, h4]
      · simp [h3, h4]
      · simp [h3, h4]
      · simp [h3, h4]; omega
    have pick : ∀ k, k ≤ len → ∃ xs : List α, xs.length = k ∧ (∀ a, a ∈ xs → ok a) ∧ ∀ i y, xs[i]? = some y → (enc y).length = sz ∧ ∀ j, j < sz → w.cell? (a.add (i * sz + j)) = (enc y)[j]? := by
      intro k
      induction k with
      | zero => exact fun _ => ⟨[], rfl, fun _ h => (by cases h), fun i y h => (by simp at h)⟩
      | succ k ih =>
        intro hk
        obtain ⟨xs, h1, h2, h3⟩ := ih (by omega)
        obtain ⟨y, hy1, hy2, hy3⟩ := each k (by omega)
        refine ⟨xs ++ [y], by simp [h1], fun b hb => ?_, fun i z hz => ?_⟩
        · rcases List.mem_append.1 hb with hb | hb
          · exact h2 b hb
          · simp at hb; subst hb; exact hy1
        · by_cases hi : i < xs.length
          · rw [List.getElem?_append_left hi] at hz
            exact h3 i z hz
          · have hi2 : i = k := by have := (List.getElem?_eq_some_iff.1 hz).1; simp at this; omega
            subst hi2
            rw [List.getElem?_append_right (by omega), h1, Nat.sub_self] at hz
            simp at hz
            subst hz
            exact ⟨hy2, hy3⟩
    obtain ⟨xs, h1, h2, h3⟩ := pick len (Nat.le_refl _)
    refine ⟨some a, len, cap, xs, hcs, h1, by omega, fun h0 => ?_, h2⟩
    obtain ⟨y0, hy0⟩ : ∃ y, xs[0]? = some y := ⟨_, List.getElem?_eq_getElem h0⟩
    obtain ⟨q0, q1⟩ := h3 0 y0 hy0
    have hcell0 : w.cell? a = (enc y0)[0]? := by
      have := q1 0 hs
      simpa [Addr.add] using this
    obtain ⟨v0, hv0⟩ : ∃ v, (enc y0)[0]? = some v := ⟨_, List.getElem?_eq_getElem (by omega)⟩
    rw [hv0] at hcell0
    have hspot : a.spot = none := by
      unfold World.cell? at hcell0
      split at hcell0
      · split at hcell0
        · cases hcell0
        · rename_i h; simpa using h
      · cases hcell0
    refine ⟨a.block, a.off, ?_, World.block_lt_of_cell? w _ hcell0, fun k y hy j v hv => ?_⟩
    · cases a; simp at hspot; subst hspot; rfl
    · obtain ⟨g0, g1⟩ := h3 k y hy
      have hj : j < sz := by have := (List.getElem?_eq_some_iff.1 hv).1; omega
      have := g1 j hj
      rw [hv] at this
      rw [← this]
      congr 1
      unfold Addr.add
      by_cases h4 : k * sz + j = 0
      · rw [if_pos h4]
        cases a
        simp at hspot
        subst hspot
        simp
        omega
      · rw [if_neg h4]
        simp
end Go.Proofs.Ytgfcnkfmgpakkaa
/-
Arguments opened: a graph, numbers, reports.
-/
namespace Go.Proofs.Ytgfcnkfmgpakkaa
open Go.RowKit Go.ChangeShapes Go.WideShapes Go.Deep

def wf64 (x : Int) : Prop := (Lit.int .i64 x).wf = true
def wfE (e : GEdge) : Prop := wf64 e.frm ∧ wf64 e.to ∧ wf64 e.cap
section
variable {H : Type} {henc : TypeId × Value → H} {w : World} {base : Nat} {spare : Nat → Bool} {held : Bool}
set_option maxRecDepth 100000 in
theorem edge_open {n : Nat} {cs : List Value} {y : DataW H × List MemPlace} (h : DataW.trod henc Try.prog w base spare held n 70 cs = some y) : ∃ a, cs = encE a ∧ wfE a := by
  obtain ⟨y0, y1, y2, m, _, hl, h0, h1, h2⟩ := trod_struct3 Try.underlying70 h
  have hl3 : cs.length = 3 := hl.trans (by kernel_rfl)
  match cs, hl3 with
  | [c0, c1, c2], _ =>
    obtain ⟨a0, e0, _, w0⟩ := DataW.trod_int Try.underlying3 h0
    obtain ⟨a1, e1, _, w1⟩ := DataW.trod_int Try.underlying3 h1
    obtain ⟨a2, e2, _, w2⟩ := DataW.trod_int Try.underlying3 h2
    have g : Try.prog.cellsOf 3 = 1 := by kernel_rfl
    simp [g] at e0 e1 e2
    subst e0 e1 e2
    exact ⟨⟨a0, a1, a2⟩, rfl, w0, w1, w2⟩
set_option maxRecDepth 100000 in
theorem graph_open {r : Reach} {b0 : Nat} {v : Value} {d : DataW H} {ps : List MemPlace} (hval : Value.okWide Try.prog w r b0 68 v) (hd : DataW.Trod henc Try.prog w base spare held 68 v d ps) :
    ∃ nodes A len cap es, v = .agg #[.int .i64 nodes, .slice A len cap] ∧ wf64 nodes ∧ es.length = len ∧ len ≤ maxLen ∧ Rd 3 encE w A es ∧ ∀ e, e ∈ es → wfE e := by
  obtain ⟨cs, rfl, hs⟩ := okWide_struct Try.underlying68 hval
  obtain ⟨fuel, hf⟩ := hd
  obtain ⟨y0, y1, m, _, hl, h0, h1⟩ := trod_struct2 Try.underlying68 hf
  obtain ⟨l⟩ := cs
  have hl2 : l.length = 2 := by
    have : Try.prog.cellsOf 68 = 2 := by kernel_rfl
    rw [this] at hs
    exact hs
  match l, hl2 with
  | [c0, c1], _ =>
    obtain ⟨a0, e0, _, w0⟩ := DataW.trod_int Try.underlying3 h0
    have g : Try.prog.cellsOf 3 = 1 := by kernel_rfl
    have g2 : Try.prog.cellsOf 66 = 1 := by kernel_rfl
    simp [g, Value.cells] at e0
    subst e0
    obtain ⟨A, len, cap, xs, e1, q1, q2, q3, q4⟩ := rd_open (sz := 3) (enc := encE) (ok := wfE) Try.underlying66 (by kernel_rfl) (by omega) (fun n cs' y h => edge_open h) h1
    simp [g2, Value.cells] at e1
    subst e1
    exact ⟨a0, A, len, cap, xs, rfl, w0, q1, q2, q3, q4⟩
set_option maxRecDepth 100000 in
theorem ints_open {r : Reach} {b0 : Nat} {v : Value} {d : DataW H} {ps : List MemPlace} (hval : Value.okWide Try.prog w r b0 23 v) (hd : DataW.Trod henc Try.prog w base spare held 23 v d ps) :
    ∃ A len cap xs, v = .slice A len cap ∧ xs.length = len ∧ len ≤ maxLen ∧ Rd 1 encI w A xs ∧ ∀ x, x ∈ xs → wf64 x := by
  obtain ⟨a, l, c, rfl⟩ := okWide_slice Try.underlying23 hval
  obtain ⟨fuel, hf⟩ := hd
  obtain ⟨A, len, cap, xs, e1, q1, q2, q3, q4⟩ := rd_open (sz := 1) (enc := encI) (ok := wf64) Try.underlying23 (by kernel_rfl) (by omega) (fun n cs' y h => by
    obtain ⟨a, e, _, w0⟩ := DataW.trod_int Try.underlying3 h
    exact ⟨a, e, w0⟩) hf
  simp [Value.cells] at e1
  obtain ⟨rfl, rfl, rfl⟩ := e1
  exact ⟨_, _, _, xs, rfl, q1, q2, q3, q4⟩
set_option maxRecDepth 100000 in
theorem bools_open {r : Reach} {b0 : Nat} {v : Value} {d : DataW H} {ps : List MemPlace} (hval : Value.okWide Try.prog w r b0 75 v) (hd : DataW.Trod henc Try.prog w base spare held 75 v d ps) :
    ∃ A len cap xs, v = .slice A len cap ∧ xs.length = len ∧ len ≤ maxLen ∧ Rd 1 encB w A xs := by
  obtain ⟨a, l, c, rfl⟩ := okWide_slice Try.underlying75 hval
  obtain ⟨fuel, hf⟩ := hd
  obtain ⟨A, len, cap, xs, e1, q1, q2, q3, q4⟩ := rd_open (sz := 1) (enc := encB) (ok := fun _ => True) Try.underlying75 (by kernel_rfl) (by omega) (fun n cs' y h => by
    obtain ⟨a, e, _⟩ := DataW.trod_bool Try.underlying4 h
    exact ⟨a, e, trivial⟩) hf
  simp [Value.cells] at e1
  obtain ⟨rfl, rfl, rfl⟩ := e1
  exact ⟨_, _, _, xs, rfl, q1, q2, q3⟩
end
end Go.Proofs.Ytgfcnkfmgpakkaa
/-
Arguments opened: jobs, a plan, a cut.
-/
namespace Go.Proofs.Ytgfcnkfmgpakkaa
open Go.RowKit Go.ChangeShapes Go.WideShapes Go.Deep
def wfJ (j : GJob) : Prop := wf64 j.frm ∧ wf64 j.till ∧ wf64 j.energy ∧ wf64 j.rate ∧ wf64 j.rank
section
variable {H : Type} {henc : TypeId × Value → H} {w : World} {base : Nat} {spare : Nat → Bool} {held : Bool}
theorem trod_struct5 {P : Program} {t : TypeId} {f0 f1 f2 f3 f4 : Field} {fuel : Nat} {cs : List Value} {x : DataW H × List MemPlace} (ht : P.underlying t = some (.struct #[f0, f1, f2, f3, f4])) (h : DataW.trod henc P w base spare held fuel t cs = some x) :
    ∃ y0 y1 y2 y3 y4 n, cs.length = P.cellsOf t ∧ DataW.trod henc P w base spare held n f0.type ((cs.drop f0.offset).take (P.cellsOf f0.type)) = some y0 ∧
      DataW.trod henc P w base spare held n f1.type ((cs.drop f1.offset).take (P.cellsOf f1.type)) = some y1 ∧ DataW.trod henc P w base spare held n f2.type ((cs.drop f2.offset).take (P.cellsOf f2.type)) = some y2 ∧
      DataW.trod henc P w base spare held n f3.type ((cs.drop f3.offset).take (P.cellsOf f3.type)) = some y3 ∧ DataW.trod henc P w base spare held n f4.type ((cs.drop f4.offset).take (P.cellsOf f4.type)) = some y4 := by
  obtain ⟨xs, n, _, rfl, hl, hlen, hf⟩ := DataW.trod_struct ht h
  match xs, hlen with
  | [y0, y1, y2, y3, y4], _ => exact ⟨y0, y1, y2, y3, y4, n, hl, by simpa using hf 0 f0 rfl, by simpa using hf 1 f1 rfl, by simpa using hf 2 f2 rfl, by simpa using hf 3 f3 rfl, by simpa using hf 4 f4 rfl⟩
set_option maxRecDepth 100000 in
theorem job_cells {n : Nat} {cs : List Value} {y : DataW H × List MemPlace} (h : DataW.trod henc Try.prog w base spare held n 25 cs = some y) : ∃ a, cs = encJ a ∧ wfJ a := by
  obtain ⟨y0, y1, y2, y3, y4, m, hl, h0, h1, h2, h3, h4⟩ := trod_struct5 Try.underlying25 h
  have hl5 : cs.length = 5 := hl.trans (by kernel_rfl)
  match cs, hl5 with
  | [c0, c1, c2, c3, c4], _ =>
    obtain ⟨a0, e0, _, w0⟩ := DataW.trod_int Try.underlying3 h0
    obtain ⟨a1, e1, _, w1⟩ := DataW.trod_int Try.underlying3 h1
    obtain ⟨a2, e2, _, w2⟩ := DataW.trod_int Try.underlying3 h2
    obtain ⟨a3, e3, _, w3⟩ := DataW.trod_int Try.underlying3 h3
    obtain ⟨a4, e4, _, w4⟩ := DataW.trod_int Try.underlying3 h4
    have g : Try.prog.cellsOf 3 = 1 := by kernel_rfl
    simp [g] at e0 e1 e2 e3 e4
    subst e0 e1 e2 e3 e4
    exact ⟨⟨a0, a1, a2, a3, a4⟩, rfl, w0, w1, w2, w3, w4⟩
set_option maxRecDepth 100000 in
theorem job_open {r : Reach} {b0 : Nat} {v : Value} {d : DataW H} {ps : List MemPlace} (hval : Value.okWide Try.prog w r b0 25 v) (hd : DataW.Trod henc Try.prog w base spare held 25 v d ps) :
    ∃ j : GJob, v = .agg #[.int .i64 j.frm, .int .i64 j.till, .int .i64 j.energy, .int .i64 j.rate, .int .i64 j.rank] ∧ wfJ j := by
  obtain ⟨cs, rfl, hs⟩ := okWide_struct Try.underlying25 hval
  obtain ⟨fuel, hf⟩ := hd
  obtain ⟨j, hj, wj⟩ := job_cells hf
  refine ⟨j, ?_, wj⟩
  obtain ⟨l⟩ := cs
  simp [Value.cells, encJ] at hj
  subst hj
  rfl
set_option maxRecDepth 100000 in
theorem jobs_open {r : Reach} {b0 : Nat} {v : Value} {d : DataW H} {ps : List MemPlace} (hval : Value.okWide Try.prog w r b0 22 v) (hd : DataW.Trod henc Try.prog w base spare held 22 v d ps) :
    ∃ A len cap xs, v = .slice A len cap ∧ xs.length = len ∧ len ≤ maxLen ∧ Rd 5 encJ w A xs ∧ ∀ x, x ∈ xs → wfJ x := by
  obtain ⟨a, l, c, rfl⟩ := okWide_slice Try.underlying22 hval
  obtain ⟨fuel, hf⟩ := hd
  obtain ⟨A, len, cap, xs, e1, q1, q2, q3, q4⟩ := rd_open (sz := 5) (enc := encJ) (ok := wfJ) Try.underlying22 (by kernel_rfl) (by omega) (fun n cs' y h => job_cells h) hf
  simp [Value.cells] at e1
  obtain ⟨rfl, rfl, rfl⟩ := e1
  exact ⟨_, _, _, xs, rfl, q1, q2, q3, q4⟩
set_option maxRecDepth 100000 in
theorem ints_cells {n : Nat} {cs : List Value} {y : DataW H × List MemPlace} (h : DataW.trod henc Try.prog w base spare held n 23 cs = some y) :
    ∃ A len cap xs, cs = [.slice A len cap] ∧ xs.length = len ∧ len ≤ maxLen ∧ Rd 1 encI w A xs ∧ ∀ x, x ∈ xs → wf64 x :=
  rd_open (sz := 1) (enc := encI) (ok := wf64) Try.underlying23 (by kernel_rfl) (by omega) (fun n cs' y h => by
    obtain ⟨a, e, _, w0⟩ := DataW.trod_int Try.underlying3 h
    exact ⟨a, e, w0⟩) h
set_option maxRecDepth 100000 in
theorem cut_open {r : Reach} {b0 : Nat} {v : Value} {d : DataW H} {ps : List MemPlace} (hval : Value.okWide Try.prog w r b0 30 v) (hd : DataW.Trod henc Try.prog w base spare held 30 v d ps) :
    ∃ A len cap xs A' len' cap' xs', v = .agg #[.slice A len cap, .slice A' len' cap'] ∧ xs.length = len ∧ len ≤ maxLen ∧ Rd 1 encI w A xs ∧ xs'.length = len' ∧ len' ≤ maxLen ∧ Rd 1 encI w A' xs' := by
  obtain ⟨cs, rfl, hs⟩ := okWide_struct Try.underlying30 hval
  obtain ⟨fuel, hf⟩ := hd
  obtain ⟨y0, y1, m, _, hl, h0, h1⟩ := trod_struct2 Try.underlying30 hf
  obtain ⟨l⟩ := cs
  have hl2 : l.length = 2 := by
    have : Try.prog.cellsOf 30 = 2 := by kernel_rfl
    rw [this] at hs
    exact hs
  match l, hl2 with
  | [c0, c1], _ =>
    have g2 : Try.prog.cellsOf 23 = 1 := by kernel_rfl
    obtain ⟨A, len, cap, xs, e1, q1, q2, q3, _⟩ := ints_cells h0
    obtain ⟨A', len', cap', xs', e1', q1', q2', q3', _⟩ := ints_cells h1
    simp [g2, Value.cells] at e1 e1'
    subst e1 e1'
    exact ⟨A, len, cap, xs, A', len', cap', xs', rfl, q1, q2, q3, q1', q2', q3'⟩
set_option maxRecDepth 100000 in
theorem plan_open {r : Reach} {b0 : Nat} {v : Value} {d : DataW H} {ps : List MemPlace} (hval : Value.okWide Try.prog w r b0 28 v) (hd : DataW.Trod henc Try.prog w base spare held 28 v d ps) :
    ∃ A len cap rs qs, v = .slice A len cap ∧ qs.length = len ∧ len ≤ maxLen ∧ RdP w A rs qs := by
  obtain ⟨a, l, c, rfl⟩ := okWide_slice Try.underlying28 hval
  obtain ⟨fuel, hf⟩ := hd
  obtain ⟨A, len, cap, rs, e1, q1, q2, q3, q4⟩ := rd_open (sz := 1) (enc := encRow) (ok := fun r => ∃ p : List Int, p.length = r.n ∧ r.n ≤ maxLen ∧ Rd 1 encI w r.a p) Try.underlying28 (by kernel_rfl) (by omega) (fun n cs' y h => by
    obtain ⟨A, len, cap, xs, e, h1, h2, h3, _⟩ := ints_cells h
    exact ⟨⟨A, len, cap⟩, e, xs, h1, h2, h3⟩) hf
  simp [Value.cells] at e1
  obtain ⟨rfl, rfl, rfl⟩ := e1
  have key : ∀ (rs : List RowV), (∀ r, r ∈ rs → ∃ p : List Int, p.length = r.n ∧ r.n ≤ maxLen ∧ Rd 1 encI w r.a p) → ∃ qs : List (List Int), rs.length = qs.length ∧ ∀ (k : Nat) (r : RowV) (p : List Int), rs[k]? = some r → qs[k]? = some p → p.length = r.n ∧ r.n ≤ 9223372036854775807 ∧ Rd 1 encI w r.a p := by
    intro rs
    induction rs with
    | nil => exact fun _ => ⟨[], rfl, fun k r p h => by simp at h⟩
    | cons r rs ih =>
      intro h
      obtain ⟨p, h1, h2, h3⟩ := h r (List.mem_cons_self ..)
      obtain ⟨qs, g1, g2⟩ := ih (fun x hx => h x (List.mem_cons_of_mem _ hx))
      refine ⟨p :: qs, by simp [g1], fun k r' p' hr hp => ?_⟩
      cases k with
      | zero =>
        simp at hr hp
        subst hr hp
        exact ⟨h1, by unfold maxLen at h2; omega, h3⟩
      | succ k => exact g2 k r' p' (by simpa using hr) (by simpa using hp)
  obtain ⟨qs, g1, g2⟩ := key rs q4
  exact ⟨_, _, _, rs, qs, rfl, by omega, q2, ⟨q3, g1, g2⟩⟩
end
end Go.Proofs.Ytgfcnkfmgpakkaa
/-
Arguments opened: a list of cuts.
-/
namespace Go.Proofs.Ytgfcnkfmgpakkaa
open Go.RowKit Go.ChangeShapes Go.WideShapes Go.Deep
variable {H : Type} {henc : TypeId × Value → H} {w : World} {base : Nat} {spare : Nat → Bool} {held : Bool}
set_option maxRecDepth 100000 in
theorem cut_cells {n : Nat} {cs : List Value} {y : DataW H × List MemPlace} (h : DataW.trod henc Try.prog w base spare held n 30 cs = some y) : ∃ v : CutV, cs = encCut v ∧ ∃ c : List Int × List Int, CutRow w v c := by
  obtain ⟨y0, y1, m, _, hl, h0, h1⟩ := trod_struct2 Try.underlying30 h
  have hl2 : cs.length = 2 := hl.trans (by kernel_rfl)
  match cs, hl2 with
  | [c0, c1], _ =>
    have g2 : Try.prog.cellsOf 23 = 1 := by kernel_rfl
    obtain ⟨A, len, cap, xs, e1, q1, q2, q3, _⟩ := ints_cells h0
    obtain ⟨A', len', cap', xs', e1', q1', q2', q3', _⟩ := ints_cells h1
    simp [g2] at e1 e1'
    subst e1 e1'
    exact ⟨⟨A, len, cap, A', len', cap'⟩, rfl, (xs, xs'), q1, by unfold maxLen at q2; dsimp only; omega, q3, q1', by unfold maxLen at q2'; dsimp only; omega, q3'⟩
set_option maxRecDepth 100000 in
theorem cuts_open {r : Reach} {b0 : Nat} {v : Value} {d : DataW H} {ps : List MemPlace} (hval : Value.okWide Try.prog w r b0 51 v) (hd : DataW.Trod henc Try.prog w base spare held 51 v d ps) :
    ∃ A len cap vs C, v = .slice A len cap ∧ C.length = len ∧ len ≤ maxLen ∧ RdC w A vs C := by
  obtain ⟨a, l, c, rfl⟩ := okWide_slice Try.underlying51 hval
  obtain ⟨fuel, hf⟩ := hd
  obtain ⟨A, len, cap, vs, e1, q1, q2, q3, q4⟩ := rd_open (sz := 2) (enc := encCut) (ok := fun v => ∃ c : List Int × List Int, CutRow w v c) Try.underlying51 (by kernel_rfl) (by omega) (fun n cs' y h => cut_cells h) hf
  simp [Value.cells] at e1
  obtain ⟨rfl, rfl, rfl⟩ := e1
  have key : ∀ (vs : List CutV), (∀ v, v ∈ vs → ∃ c : List Int × List Int, CutRow w v c) → ∃ C : List (List Int × List Int), vs.length = C.length ∧ ∀ (k : Nat) (v : CutV) (c : List Int × List Int), vs[k]? = some v → C[k]? = some c → CutRow w v c := by
    intro vs
    induction vs with
    | nil => exact fun _ => ⟨[], rfl, fun k v c h => by simp at h⟩
    | cons v vs ih =>
      intro h
      obtain ⟨p, h1⟩ := h v (List.mem_cons_self ..)
      obtain ⟨C, g1, g2⟩ := ih (fun x hx => h x (List.mem_cons_of_mem _ hx))
      refine ⟨p :: C, by simp [g1], fun k v' c' hv hc => ?_⟩
      cases k with
      | zero =>
        simp at hv hc
        subst hv hc
        exact h1
      | succ k => exact g2 k v' c' (by simpa using hv) (by simpa using hc)
  obtain ⟨C, g1, g2⟩ := key vs q4
  exact ⟨_, _, _, vs, C, rfl, by omega, q2, ⟨q3, g1, g2⟩⟩
end Go.Proofs.Ytgfcnkfmgpakkaa
/-
A slice that came in: its length is at most its capacity.
-/
namespace Go.Proofs.Ytgfcnkfmgpakkaa
open Go.RowKit Go.ChangeShapes Go.WideShapes Go.Deep
theorem cap_rows {H : Type} {henc : TypeId × Value → H} {P : Program} {w : World} {base : Nat} {spare : Nat → Bool} {held : Bool} {t e : TypeId} {d : DataW H} {A : Option Addr} {len cap : Nat} {ps : List MemPlace} (hu : P.underlying t = some (.slice e)) (h : DataW.Trod henc P w base spare held t (.slice A len cap) d ps) :
    len ≤ cap ∧ cap ≤ 9223372036854775807 := by
  obtain ⟨fuel, hf⟩ := h
  rcases open_slice hu hf with ⟨h0, _⟩ | ⟨a, len', cap', m, n, D, Pl, hcs, _, hl, hm, _⟩
  · simp [Value.cells] at h0
    omega
  · simp [Value.cells] at hcs
    obtain ⟨_, rfl, rfl⟩ := hcs
    unfold maxLen at hm
    omega
end Go.Proofs.Ytgfcnkfmgpakkaa
