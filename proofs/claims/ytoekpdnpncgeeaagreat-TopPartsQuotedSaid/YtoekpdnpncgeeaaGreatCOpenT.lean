/-
Arguments opened: a tariff, a calendar, a session, minutes.
-/
import Derived.Test.YtoekpdnpncgeeaaGreatCOpen
import Derived.Test.YtoekpdnpncgeeaaGreatGDy
import Derived.Test.YtoekpdnpncgeeaaGreatGBlA
import Derived.Test.YtoekpdnpncgeeaaGreatProg
import Derived.Deep.Strs
import Derived.OpenShut
namespace Go.Proofs.YtoekpdnpncgeeaaGreat
open Go.RowKit Go.ChangeShapes Go.WideShapes Go.Deep
set_option linter.unusedVariables false
set_option linter.unusedSimpArgs false
section
variable {H : Type} {henc : TypeId × Value → H} {w : World} {base : Nat} {spare : Nat → Bool} {held : Bool}
theorem trodU2 {P : Program} {t : TypeId} {f0 f1 : Field} {fuel : Nat} {cs : List Value} {x : DataW H × List MemPlace} (ht : P.underlying t = some (.struct #[f0, f1])) (h : DataW.trod henc P w base spare held fuel t cs = some x) :
    ∃ y0 y1 n, cs.length = P.cellsOf t ∧ DataW.trod henc P w base spare held n f0.type ((cs.drop f0.offset).take (P.cellsOf f0.type)) = some y0 ∧ DataW.trod henc P w base spare held n f1.type ((cs.drop f1.offset).take (P.cellsOf f1.type)) = some y1 := by
  obtain ⟨xs, n, _, rfl, hl, hlen, hf⟩ := DataW.trod_struct ht h
  match xs, hlen with
  | [y0, y1], _ => exact ⟨y0, y1, n, hl, by simpa using hf 0 f0 rfl, by simpa using hf 1 f1 rfl⟩
theorem trodU3 {P : Program} {t : TypeId} {f0 f1 f2 : Field} {fuel : Nat} {cs : List Value} {x : DataW H × List MemPlace} (ht : P.underlying t = some (.struct #[f0, f1, f2])) (h : DataW.trod henc P w base spare held fuel t cs = some x) :
    ∃ y0 y1 y2 n, cs.length = P.cellsOf t ∧ DataW.trod henc P w base spare held n f0.type ((cs.drop f0.offset).take (P.cellsOf f0.type)) = some y0 ∧ DataW.trod henc P w base spare held n f1.type ((cs.drop f1.offset).take (P.cellsOf f1.type)) = some y1 ∧ DataW.trod henc P w base spare held n f2.type ((cs.drop f2.offset).take (P.cellsOf f2.type)) = some y2 := by
  obtain ⟨xs, n, _, rfl, hl, hlen, hf⟩ := DataW.trod_struct ht h
  match xs, hlen with
  | [y0, y1, y2], _ => exact ⟨y0, y1, y2, n, hl, by simpa using hf 0 f0 rfl, by simpa using hf 1 f1 rfl, by simpa using hf 2 f2 rfl⟩
theorem trodU4 {P : Program} {t : TypeId} {f0 f1 f2 f3 : Field} {fuel : Nat} {cs : List Value} {x : DataW H × List MemPlace} (ht : P.underlying t = some (.struct #[f0, f1, f2, f3])) (h : DataW.trod henc P w base spare held fuel t cs = some x) :
    ∃ y0 y1 y2 y3 n, cs.length = P.cellsOf t ∧ DataW.trod henc P w base spare held n f0.type ((cs.drop f0.offset).take (P.cellsOf f0.type)) = some y0 ∧ DataW.trod henc P w base spare held n f1.type ((cs.drop f1.offset).take (P.cellsOf f1.type)) = some y1 ∧ DataW.trod henc P w base spare held n f2.type ((cs.drop f2.offset).take (P.cellsOf f2.type)) = some y2 ∧ DataW.trod henc P w base spare held n f3.type ((cs.drop f3.offset).take (P.cellsOf f3.type)) = some y3 := by
  obtain ⟨xs, n, _, rfl, hl, hlen, hf⟩ := DataW.trod_struct ht h
  match xs, hlen with
  | [y0, y1, y2, y3], _ => exact ⟨y0, y1, y2, y3, n, hl, by simpa using hf 0 f0 rfl, by simpa using hf 1 f1 rfl, by simpa using hf 2 f2 rfl, by simpa using hf 3 f3 rfl⟩
theorem trodU7 {P : Program} {t : TypeId} {f0 f1 f2 f3 f4 f5 f6 : Field} {fuel : Nat} {cs : List Value} {x : DataW H × List MemPlace} (ht : P.underlying t = some (.struct #[f0, f1, f2, f3, f4, f5, f6])) (h : DataW.trod henc P w base spare held fuel t cs = some x) :
    ∃ y0 y1 y2 y3 y4 y5 y6 n, cs.length = P.cellsOf t ∧ DataW.trod henc P w base spare held n f0.type ((cs.drop f0.offset).take (P.cellsOf f0.type)) = some y0 ∧ DataW.trod henc P w base spare held n f1.type ((cs.drop f1.offset).take (P.cellsOf f1.type)) = some y1 ∧ DataW.trod henc P w base spare held n f2.type ((cs.drop f2.offset).take (P.cellsOf f2.type)) = some y2 ∧ DataW.trod henc P w base spare held n f3.type ((cs.drop f3.offset).take (P.cellsOf f3.type)) = some y3 ∧ DataW.trod henc P w base spare held n f4.type ((cs.drop f4.offset).take (P.cellsOf f4.type)) = some y4 ∧ DataW.trod henc P w base spare held n f5.type ((cs.drop f5.offset).take (P.cellsOf f5.type)) = some y5 ∧ DataW.trod henc P w base spare held n f6.type ((cs.drop f6.offset).take (P.cellsOf f6.type)) = some y6 := by
  obtain ⟨xs, n, _, rfl, hl, hlen, hf⟩ := DataW.trod_struct ht h
  match xs, hlen with
  | [y0, y1, y2, y3, y4, y5, y6], _ => exact ⟨y0, y1, y2, y3, y4, y5, y6, n, hl, by simpa using hf 0 f0 rfl, by simpa using hf 1 f1 rfl, by simpa using hf 2 f2 rfl, by simpa using hf 3 f3 rfl, by simpa using hf 4 f4 rfl, by simpa using hf 5 f5 rfl, by simpa using hf 6 f6 rfl⟩
set_option maxRecDepth 100000 in
theorem artT_cells {n : Nat} {cs : List Value} {y : DataW H × List MemPlace} (h : DataW.trod henc Tryz.prog w base spare held n 49 cs = some y) : ∃ a, cs = encArt a ∧ True := by
  obtain ⟨y0, y1, y2, y3, y4, y5, y6, m, hl, h0, h1, h2, h3, h4, h5, h6⟩ := trodU7 Tryz.underlying49 h
  have hl1 : cs.length = 7 := hl.trans (by kernel_rfl)
  match cs, hl1 with
  | [c0, c1, c2, c3, c4, c5, c6], _ =>
    obtain ⟨a0, e0, _, w0⟩ := DataW.trod_int Tryz.underlying3 h0
    obtain ⟨a1, e1, _, w1⟩ := DataW.trod_int Tryz.underlying3 h1
    obtain ⟨a2, e2, _, w2⟩ := DataW.trod_int Tryz.underlying3 h2
    obtain ⟨a3, e3, _, w3⟩ := DataW.trod_int Tryz.underlying3 h3
    obtain ⟨a4, e4, _, w4⟩ := DataW.trod_int Tryz.underlying3 h4
    obtain ⟨a5, e5, _, w5⟩ := DataW.trod_int Tryz.underlying3 h5
    obtain ⟨a6, e6, _, w6⟩ := DataW.trod_int Tryz.underlying3 h6
    have g : Tryz.prog.cellsOf 3 = 1 := by kernel_rfl
    simp [g] at e0 e1 e2 e3 e4 e5 e6
    subst e0 e1 e2 e3 e4 e5 e6
    exact ⟨⟨a0, a1, a2, a3, a4, a5, a6⟩, rfl, trivial⟩
set_option maxRecDepth 100000 in
theorem chngT_cells {n : Nat} {cs : List Value} {y : DataW H × List MemPlace} (h : DataW.trod henc Tryz.prog w base spare held n 65 cs = some y) : ∃ a, cs = encChng a ∧ True := by
  obtain ⟨y0, y1, m, hl, h0, h1⟩ := trodU2 Tryz.underlying65 h
  have hl1 : cs.length = 2 := hl.trans (by kernel_rfl)
  match cs, hl1 with
  | [c0, c1], _ =>
    obtain ⟨a0, e0, _, w0⟩ := DataW.trod_int Tryz.underlying3 h0
    obtain ⟨a1, e1, _, w1⟩ := DataW.trod_int Tryz.underlying3 h1
    have g : Tryz.prog.cellsOf 3 = 1 := by kernel_rfl
    simp [g] at e0 e1
    subst e0 e1
    exact ⟨⟨a0, a1⟩, rfl, trivial⟩
set_option maxRecDepth 100000 in
theorem slcT_cells {n : Nat} {cs : List Value} {y : DataW H × List MemPlace} (h : DataW.trod henc Tryz.prog w base spare held n 37 cs = some y) : ∃ a, cs = encSlc a ∧ True := by
  obtain ⟨y0, y1, m, hl, h0, h1⟩ := trodU2 Tryz.underlying37 h
  have hl1 : cs.length = 2 := hl.trans (by kernel_rfl)
  match cs, hl1 with
  | [c0, c1], _ =>
    obtain ⟨a0, e0, _, w0⟩ := DataW.trod_int Tryz.underlying3 h0
    obtain ⟨a1, e1, _, w1⟩ := DataW.trod_int Tryz.underlying3 h1
    have g : Tryz.prog.cellsOf 3 = 1 := by kernel_rfl
    simp [g] at e0 e1
    subst e0 e1
    exact ⟨⟨a0, a1⟩, rfl, trivial⟩
theorem mins_cells {n : Nat} {cs : List Value} {y : DataW H × List MemPlace} (h : DataW.trod henc Tryz.prog w base spare held n 3 cs = some y) : ∃ a, cs = encI a ∧ (Lit.int .i64 a).wf = true := by
  obtain ⟨a, e, _, w0⟩ := DataW.trod_int Tryz.underlying3 h
  exact ⟨a, e, w0⟩
set_option maxRecDepth 100000 in
theorem tariff_open {r : Reach} {b0 : Nat} {v : Value} {d : DataW H} {ps : List MemPlace} (hval : Value.okWide Tryz.prog w r b0 24 v) (hd : DataW.Trod henc Tryz.prog w base spare held 24 v d ps) :
    ∃ nm A len cap ar, v = .agg #[.string nm, .slice A len cap] ∧ Hid (RdTrf w nm A len ar) := by
  obtain ⟨cs, rfl, hs⟩ := okWide_struct Tryz.underlying24 hval
  obtain ⟨fuel, hf⟩ := hd
  obtain ⟨y0, y1, m, hl, h0, h1⟩ := trodU2 Tryz.underlying24 hf
  obtain ⟨l⟩ := cs
  have hl2 : l.length = 2 := by
    have : Tryz.prog.cellsOf 24 = 2 := by kernel_rfl
    rw [this] at hs
    exact hs
  match l, hl2 with
  | [c0, c1], _ =>
    obtain ⟨a0, e0, _, w0⟩ := DataW.trod_string Tryz.underlying9 h0
    have gs : Tryz.prog.cellsOf 9 = 1 := by kernel_rfl
    have g2 : Tryz.prog.cellsOf 22 = 1 := by kernel_rfl
    simp [gs, Value.cells] at e0
    subst e0
    obtain ⟨A, len, cap, xs, e1, q1, q2, q3, q4⟩ := rd_open (sz := 7) (enc := encArt) (ok := fun _ => True) Tryz.underlying22 (by kernel_rfl) (by omega) (fun n cs' y h => artT_cells h) h1
    simp [g2, Value.cells] at e1
    subst e1
    exact ⟨a0, A, len, cap, xs, rfl, Lib.hid ⟨q3, q1, by unfold maxLen at q2; omega, by unfold maxLen at w0; omega⟩⟩
set_option maxRecDepth 100000 in
theorem calendar_open {r : Reach} {b0 : Nat} {v : Value} {d : DataW H} {ps : List MemPlace} (hval : Value.okWide Tryz.prog w r b0 28 v) (hd : DataW.Trod henc Tryz.prog w base spare held 28 v d ps) :
    ∃ aC nC cC aH nH cH c, v = .agg #[.int .i64 (Cal.off c), .slice aC nC cC, .slice aH nH cH] ∧ Hid (RdCal w aC nC aH nH c) := by
  obtain ⟨cs, rfl, hs⟩ := okWide_struct Tryz.underlying28 hval
  obtain ⟨fuel, hf⟩ := hd
  obtain ⟨y0, y1, y2, m, hl, h0, h1, h2⟩ := trodU3 Tryz.underlying28 hf
  obtain ⟨l⟩ := cs
  have hl2 : l.length = 3 := by
    have : Tryz.prog.cellsOf 28 = 3 := by kernel_rfl
    rw [this] at hs
    exact hs
  match l, hl2 with
  | [c0, c1, c2], _ =>
    obtain ⟨a0, e0, _, w0⟩ := DataW.trod_int Tryz.underlying3 h0
    have g : Tryz.prog.cellsOf 3 = 1 := by kernel_rfl
    have g2 : Tryz.prog.cellsOf 25 = 1 := by kernel_rfl
    have g3 : Tryz.prog.cellsOf 26 = 1 := by kernel_rfl
    simp [g, Value.cells] at e0
    subst e0
    obtain ⟨A, len, cap, xs, e1, q1, q2, q3, q4⟩ := rd_open (sz := 2) (enc := encChng) (ok := fun _ => True) Tryz.underlying25 (by kernel_rfl) (by omega) (fun n cs' y h => chngT_cells h) h1
    obtain ⟨B, lenB, capB, ys, e2, k1, k2, k3, k4⟩ := rd_open (sz := 1) (enc := encI) (ok := fun a => (Lit.int .i64 a).wf = true) Tryz.underlying26 (by kernel_rfl) (by omega) (fun n cs' y h => mins_cells h) h2
    simp [g2, Value.cells] at e1
    simp [g3, Value.cells] at e2
    subst e1 e2
    exact ⟨A, len, cap, B, lenB, capB, ⟨a0, xs, ys⟩, rfl, Lib.hid ⟨q3, k3, q1, k1, by unfold maxLen at q2; omega, by unfold maxLen at k2; omega⟩⟩
set_option maxRecDepth 100000 in
theorem session_open {r : Reach} {b0 : Nat} {v : Value} {d : DataW H} {ps : List MemPlace} (hval : Value.okWide Tryz.prog w r b0 31 v) (hd : DataW.Trod henc Tryz.prog w base spare held 31 v d ps) :
    ∃ aS nS cS s, v = .agg #[.int .i64 (Ses.frm s), .int .i64 s.till, .int .i64 s.fin, .slice aS nS cS] ∧ Hid (RdSes w aS nS s) := by
  obtain ⟨cs, rfl, hs⟩ := okWide_struct Tryz.underlying31 hval
  obtain ⟨fuel, hf⟩ := hd
  obtain ⟨y0, y1, y2, y3, m, hl, h0, h1, h2, h3⟩ := trodU4 Tryz.underlying31 hf
  obtain ⟨l⟩ := cs
  have hl2 : l.length = 4 := by
    have : Tryz.prog.cellsOf 31 = 4 := by kernel_rfl
    rw [this] at hs
    exact hs
  match l, hl2 with
  | [c0, c1, c2, c3], _ =>
    obtain ⟨a0, e0, _, w0⟩ := DataW.trod_int Tryz.underlying3 h0
    obtain ⟨a1, e1, _, w1⟩ := DataW.trod_int Tryz.underlying3 h1
    obtain ⟨a2, e2, _, w2⟩ := DataW.trod_int Tryz.underlying3 h2
    have g : Tryz.prog.cellsOf 3 = 1 := by kernel_rfl
    have g2 : Tryz.prog.cellsOf 29 = 1 := by kernel_rfl
    simp [g, Value.cells] at e0 e1 e2
    subst e0 e1 e2
    obtain ⟨A, len, cap, xs, e3, q1, q2, q3, q4⟩ := rd_open (sz := 2) (enc := encSlc) (ok := fun _ => True) Tryz.underlying29 (by kernel_rfl) (by omega) (fun n cs' y h => slcT_cells h) h3
    simp [g2, Value.cells] at e3
    subst e3
    exact ⟨A, len, cap, ⟨a0, a1, a2, xs⟩, rfl, Lib.hid ⟨q3, q1, by unfold maxLen at q2; omega, (bounds_i64 w1).2, (bounds_i64 w0).2⟩⟩
set_option maxRecDepth 100000 in
theorem session_openL {r : Reach} {b0 : Nat} {v : Value} {d : DataW H} {ps : List MemPlace} (hval : Value.okWide Tryz.prog w r b0 31 v) (hd : DataW.Trod henc Tryz.prog w base spare held 31 v d ps) :
    ∃ aS nS cS s, v = .agg #[.int .i64 (Ses.frm s), .int .i64 s.till, .int .i64 s.fin, .slice aS nS cS] ∧ Hid (RdSes w aS nS s) ∧ -9223372036854775808 ≤ s.frm := by
  obtain ⟨cs, rfl, hs⟩ := okWide_struct Tryz.underlying31 hval
  obtain ⟨fuel, hf⟩ := hd
  obtain ⟨y0, y1, y2, y3, m, hl, h0, h1, h2, h3⟩ := trodU4 Tryz.underlying31 hf
  obtain ⟨l⟩ := cs
  have hl2 : l.length = 4 := by
    have : Tryz.prog.cellsOf 31 = 4 := by kernel_rfl
    rw [this] at hs
    exact hs
  match l, hl2 with
  | [c0, c1, c2, c3], _ =>
    obtain ⟨a0, e0, _, w0⟩ := DataW.trod_int Tryz.underlying3 h0
    obtain ⟨a1, e1, _, w1⟩ := DataW.trod_int Tryz.underlying3 h1
    obtain ⟨a2, e2, _, w2⟩ := DataW.trod_int Tryz.underlying3 h2
    have g : Tryz.prog.cellsOf 3 = 1 := by kernel_rfl
    have g2 : Tryz.prog.cellsOf 29 = 1 := by kernel_rfl
    simp [g, Value.cells] at e0 e1 e2
    subst e0 e1 e2
    obtain ⟨A, len, cap, xs, e3, q1, q2, q3, q4⟩ := rd_open (sz := 2) (enc := encSlc) (ok := fun _ => True) Tryz.underlying29 (by kernel_rfl) (by omega) (fun n cs' y h => slcT_cells h) h3
    simp [g2, Value.cells] at e3
    subst e3
    exact ⟨A, len, cap, ⟨a0, a1, a2, xs⟩, rfl, Lib.hid ⟨q3, q1, by unfold maxLen at q2; omega, (bounds_i64 w1).2, (bounds_i64 w0).2⟩, (bounds_i64 w0).1⟩
set_option maxRecDepth 100000 in
theorem mins_open {r : Reach} {b0 : Nat} {v : Value} {d : DataW H} {ps : List MemPlace} (hval : Value.okWide Tryz.prog w r b0 26 v) (hd : DataW.Trod henc Tryz.prog w base spare held 26 v d ps) :
    ∃ A len cap xs, v = .slice A len cap ∧ xs.length = len ∧ len ≤ 9223372036854775807 ∧ Rd 1 encI w A xs ∧ ∀ x ∈ xs, x ≤ 9223372036854775807 := by
  obtain ⟨a, l, c, rfl⟩ := okWide_slice Tryz.underlying26 hval
  obtain ⟨fuel, hf⟩ := hd
  obtain ⟨A, len, cap, xs, e1, q1, q2, q3, q4⟩ := rd_open (sz := 1) (enc := encI) (ok := fun a => (Lit.int .i64 a).wf = true) Tryz.underlying26 (by kernel_rfl) (by omega) (fun n cs' y h => mins_cells h) hf
  simp [Value.cells] at e1
  obtain ⟨rfl, rfl, rfl⟩ := e1
  exact ⟨_, _, _, xs, rfl, q1, by unfold maxLen at q2; omega, q3, fun x hx => (bounds_i64 (q4 x hx)).2⟩
end
end Go.Proofs.YtoekpdnpncgeeaaGreat
