/-
Arguments opened: a graph, numbers, reports.
-/
import Derived.Test.YtcnhkcbkeneobaaOpen
import Derived.Test.YtcnhkcbkeneobaaFlowA
import Derived.Test.YtcnhkcbkeneobaaProg
import Derived.Deep.Strs
namespace Go.Proofs.Ytcnhkcbkeneobaa
open Go.RowKit Go.ChangeShapes Go.WideShapes Go.Deep

def wf64 (x : Int) : Prop := (Lit.int .i64 x).wf = true
def wfE (e : GEdge) : Prop := wf64 e.frm ∧ wf64 e.to ∧ wf64 e.cap
section
variable {H : Type} {henc : TypeId × Value → H} {w : World} {base : Nat} {spare : Nat → Bool} {held : Bool}
theorem edge_open {n : Nat} {cs : List Value} {y : DataW H × List MemPlace} (h : DataW.trod henc Try.prog w base spare held n 39 cs = some y) : ∃ a, cs = encE a ∧ wfE a := by
  obtain ⟨y0, y1, y2, m, _, hl, h0, h1, h2⟩ := trod_struct3 Try.underlying39 h
  have hl3 : cs.length = 3 := hl.trans (by kernel_rfl)
  match cs, hl3 with
  | [c0, c1, c2], _ =>
    obtain ⟨a0, e0, _, w0⟩ := DataW.trod_int Try.underlying3 h0
    obtain ⟨a1, e1, _, w1⟩ := DataW.trod_int Try.underlying3 h1
    obtain ⟨a2, e2, _, w2⟩ := DataW.trod_int Try.underlying3 h2
    have g : Try.prog.cellsOf 3 = 1 := by kernel_rfl
    simp [g] at e0 e1 e2
    subst e0 e1 e2
    exact ⟨⟨a0, a1, a2⟩, rfl, w0, w1, w2⟩
theorem graph_open {r : Reach} {b0 : Nat} {v : Value} {d : DataW H} {ps : List MemPlace} (hval : Value.okWide Try.prog w r b0 24 v) (hd : DataW.Trod henc Try.prog w base spare held 24 v d ps) :
    ∃ nodes A len cap es, v = .agg #[.int .i64 nodes, .slice A len cap] ∧ wf64 nodes ∧ es.length = len ∧ len ≤ maxLen ∧ Rd 3 encE w A es ∧ ∀ e, e ∈ es → wfE e := by
  obtain ⟨cs, rfl, hs⟩ := okWide_struct Try.underlying24 hval
  obtain ⟨fuel, hf⟩ := hd
  obtain ⟨y0, y1, m, _, hl, h0, h1⟩ := trod_struct2 Try.underlying24 hf
  obtain ⟨l⟩ := cs
  have hl2 : l.length = 2 := by
    have : Try.prog.cellsOf 24 = 2 := by kernel_rfl
    rw [this] at hs
    exact hs
  match l, hl2 with
  | [c0, c1], _ =>
    obtain ⟨a0, e0, _, w0⟩ := DataW.trod_int Try.underlying3 h0
    have g : Try.prog.cellsOf 3 = 1 := by kernel_rfl
    have g2 : Try.prog.cellsOf 22 = 1 := by kernel_rfl
    simp [g, Value.cells] at e0
    subst e0
    obtain ⟨A, len, cap, xs, e1, q1, q2, q3, q4⟩ := rd_open (sz := 3) (enc := encE) (ok := wfE) Try.underlying22 (by kernel_rfl) (by omega) (fun n cs' y h => edge_open h) h1
    simp [g2, Value.cells] at e1
    subst e1
    exact ⟨a0, A, len, cap, xs, rfl, w0, q1, q2, q3, q4⟩
theorem ints_open {r : Reach} {b0 : Nat} {v : Value} {d : DataW H} {ps : List MemPlace} (hval : Value.okWide Try.prog w r b0 25 v) (hd : DataW.Trod henc Try.prog w base spare held 25 v d ps) :
    ∃ A len cap xs, v = .slice A len cap ∧ xs.length = len ∧ len ≤ maxLen ∧ Rd 1 encI w A xs ∧ ∀ x, x ∈ xs → wf64 x := by
  obtain ⟨a, l, c, rfl⟩ := okWide_slice Try.underlying25 hval
  obtain ⟨fuel, hf⟩ := hd
  obtain ⟨A, len, cap, xs, e1, q1, q2, q3, q4⟩ := rd_open (sz := 1) (enc := encI) (ok := wf64) Try.underlying25 (by kernel_rfl) (by omega) (fun n cs' y h => by
    obtain ⟨a, e, _, w0⟩ := DataW.trod_int Try.underlying3 h
    exact ⟨a, e, w0⟩) hf
  simp [Value.cells] at e1
  obtain ⟨rfl, rfl, rfl⟩ := e1
  exact ⟨_, _, _, xs, rfl, q1, q2, q3, q4⟩
theorem bools_open {r : Reach} {b0 : Nat} {v : Value} {d : DataW H} {ps : List MemPlace} (hval : Value.okWide Try.prog w r b0 26 v) (hd : DataW.Trod henc Try.prog w base spare held 26 v d ps) :
    ∃ A len cap xs, v = .slice A len cap ∧ xs.length = len ∧ len ≤ maxLen ∧ Rd 1 encB w A xs := by
  obtain ⟨a, l, c, rfl⟩ := okWide_slice Try.underlying26 hval
  obtain ⟨fuel, hf⟩ := hd
  obtain ⟨A, len, cap, xs, e1, q1, q2, q3, q4⟩ := rd_open (sz := 1) (enc := encB) (ok := fun _ => True) Try.underlying26 (by kernel_rfl) (by omega) (fun n cs' y h => by
    obtain ⟨a, e, _⟩ := DataW.trod_bool Try.underlying4 h
    exact ⟨a, e, trivial⟩) hf
  simp [Value.cells] at e1
  obtain ⟨rfl, rfl, rfl⟩ := e1
  exact ⟨_, _, _, xs, rfl, q1, q2, q3⟩
end
end Go.Proofs.Ytcnhkcbkeneobaa
