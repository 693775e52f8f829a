/-
Several texts in one: Open, OpenS, OpenA.
-/
import Derived.Test.YtpkonifeieepfaaGreatGBase
import Derived.ProofKit
import Derived.Deep.Slices
import Derived.Test.YtpkonifeieepfaaGreatGLSiteR
import Derived.Test.YtpkonifeieepfaaGreatProg
import Derived.Deep.Strs
import Derived.Test.YtpkonifeieepfaaGreatGLTreeE
/-
Arguments opened: a slice of rows of any kind, read as a list.
-/
namespace Go.Proofs.YtpkonifeieepfaaGreat
open Go.RowKit Go.ChangeShapes Go.WideShapes Go.Deep

theorem rd_open {H : Type} {henc : TypeId × Value → H} {P : Program} {w : World} {base : Nat} {spare : Nat → Bool} {held : Bool} {α : Type} {sz : Nat} {enc : α → List Value} {ok : α → Prop} {t e : TypeId} {fuel : Nat} {cs : List Value} {x : DataW H × List MemPlace}
    (ht : P.underlying t = some (.slice e)) (hc : P.cellsOf e = sz) (hs : 0 < sz)
    (hel : ∀ n cs' y, DataW.trod henc P w base spare held n e cs' = some y → ∃ a, cs' = enc a ∧ ok a)
    (h : DataW.trod henc P w base spare held fuel t cs = some x) :
    ∃ A len cap xs, cs = [.slice A len cap] ∧ xs.length = len ∧ len ≤ maxLen ∧ Rd sz enc w A xs ∧ ∀ a, a ∈ xs → ok a := by
  rcases open_slice ht h with ⟨h0, _⟩ | ⟨a, len, cap, m, n, D, Pl, hcs, hb, hl, hm, hmm, _, hx⟩
  · exact ⟨none, 0, 0, [], h0, rfl, Nat.zero_le _, Rd.nil, fun _ h => by cases h⟩
  · have hlm : len ≤ m := by rw [hmm]; split <;> omega
    rw [hc] at hx
    have each : ∀ i, i < len → ∃ y : α, ok y ∧ (enc y).length = sz ∧ ∀ j, j < sz → w.cell? (a.add (i * sz + j)) = (enc y)[j]? := by
      intro i hi
      obtain ⟨cs', h1, h2⟩ := hx i (by omega)
      obtain ⟨y, rfl, hy⟩ := hel _ _ _ h2
      obtain ⟨_, hlen, hcell⟩ := World.cells?_some h1
      refine ⟨y, hy, hlen, fun j hj => ?_⟩
      rw [← hcell j hj]
      congr 1
      unfold Addr.add
      by_cases h3 : i * sz = 0 <;> by_cases h4 : j = 0
      · simp [h3, h4]
      · simp [h3, h4]
      · simp [h3, h4]
      · simp [h3, h4]; omega
    have pick : ∀ k, k ≤ len → ∃ xs : List α, xs.length = k ∧ (∀ a, a ∈ xs → ok a) ∧ ∀ i y, xs[i]? = some y → (enc y).length = sz ∧ ∀ j, j < sz → w.cell? (a.add (i * sz + j)) = (enc y)[j]? := by
      intro k
      induction k with
      | zero => exact fun _ => ⟨[], rfl, fun _ h => (by cases h), fun i y h => (by simp at h)⟩
      | succ k ih =>
        intro hk
        obtain ⟨xs, h1, h2, h3⟩ := ih (by omega)
        obtain ⟨y, hy1, hy2, hy3⟩ := each k (by omega)
        refine ⟨xs ++ [y], by simp [h1], fun b hb => ?_, fun i z hz => ?_⟩
        · rcases List.mem_append.1 hb with hb | hb
          · exact h2 b hb
          · simp at hb; subst hb; exact hy1
        · by_cases hi : i < xs.length
          · rw [List.getElem?_append_left hi] at hz
            exact h3 i z hz
          · have hi2 : i = k := by have := (List.getElem?_eq_some_iff.1 hz).1; simp at this; omega
            subst hi2
            rw [List.getElem?_append_right (by omega), h1, Nat.sub_self] at hz
            simp at hz
            subst hz
            exact ⟨hy2, hy3⟩
    obtain ⟨xs, h1, h2, h3⟩ := pick len (Nat.le_refl _)
    refine ⟨some a, len, cap, xs, hcs, h1, by omega, fun h0 => ?_, h2⟩
    obtain ⟨y0, hy0⟩ : ∃ y, xs[0]? = some y := ⟨_, List.getElem?_eq_getElem h0⟩
    obtain ⟨q0, q1⟩ := h3 0 y0 hy0
    have hcell0 : w.cell? a = (enc y0)[0]? := by
      have := q1 0 hs
      simpa [Addr.add] using this
    obtain ⟨v0, hv0⟩ : ∃ v, (enc y0)[0]? = some v := ⟨_, List.getElem?_eq_getElem (by omega)⟩
    rw [hv0] at hcell0
    have hspot : a.spot = none := by
      unfold World.cell? at hcell0
      split at hcell0
      · split at hcell0
        · cases hcell0
        · rename_i h; simpa using h
      · cases hcell0
    refine ⟨a.block, a.off, ?_, World.block_lt_of_cell? w _ hcell0, fun k y hy j v hv => ?_⟩
    · cases a; simp at hspot; subst hspot; rfl
    · obtain ⟨g0, g1⟩ := h3 k y hy
      have hj : j < sz := by have := (List.getElem?_eq_some_iff.1 hv).1; omega
      have := g1 j hj
      rw [hv] at this
      rw [← this]
      congr 1
      unfold Addr.add
      by_cases h4 : k * sz + j = 0
      · rw [if_pos h4]
        cases a
        simp at hspot
        subst hspot
        simp
        omega
      · rw [if_neg h4]
        simp
end Go.Proofs.YtpkonifeieepfaaGreat
/-
Arguments opened: a site.
-/
namespace Go.Proofs.YtpkonifeieepfaaGreat
open Go.RowKit Go.ChangeShapes Go.WideShapes Go.Deep
set_option linter.unusedVariables false
set_option linter.unusedSimpArgs false
def wfI64 (x : Int) : Prop := (Lit.int .i64 x).wf = true
def wfCon (c : GCon) : Prop := c.name.size ≤ maxLen ∧ wfI64 c.up ∧ wfI64 c.limit ∧ wfI64 c.neutral ∧ wfI64 c.rated ∧ wfI64 c.heat ∧ wfI64 c.amb ∧ wfI64 c.most ∧ wfI64 c.gain ∧ wfI64 c.loss ∧ wfI64 c.den
def wfCtr (c : GCtr) : Prop := c.name.size ≤ maxLen ∧ wfI64 c.own ∧ wfI64 c.rank ∧ wfI64 c.card
def wfChg (c : GChg) : Prop := c.name.size ≤ maxLen ∧ wfI64 c.place ∧ wfI64 c.ph ∧ wfI64 c.mn ∧ wfI64 c.mx ∧ wfI64 c.step ∧ wfI64 c.fb ∧ wfI64 c.own
def wfBay (c : GBay) : Prop := c.name.size ≤ maxLen ∧ wfI64 c.chg
section
variable {H : Type} {henc : TypeId × Value → H} {w : World} {base : Nat} {spare : Nat → Bool} {held : Bool}
theorem trodS1 {P : Program} {t : TypeId} {f0 : Field} {fuel : Nat} {cs : List Value} {x : DataW H × List MemPlace} (ht : P.underlying t = some (.struct #[f0])) (h : DataW.trod henc P w base spare held fuel t cs = some x) :
    ∃ y0 n, cs.length = P.cellsOf t ∧ DataW.trod henc P w base spare held n f0.type ((cs.drop f0.offset).take (P.cellsOf f0.type)) = some y0 := by
  obtain ⟨xs, n, _, rfl, hl, hlen, hf⟩ := DataW.trod_struct ht h
  match xs, hlen with
  | [y0], _ => exact ⟨y0, n, hl, by simpa using hf 0 f0 rfl⟩
theorem trodS2 {P : Program} {t : TypeId} {f0 f1 : Field} {fuel : Nat} {cs : List Value} {x : DataW H × List MemPlace} (ht : P.underlying t = some (.struct #[f0, f1])) (h : DataW.trod henc P w base spare held fuel t cs = some x) :
    ∃ y0 y1 n, cs.length = P.cellsOf t ∧ DataW.trod henc P w base spare held n f0.type ((cs.drop f0.offset).take (P.cellsOf f0.type)) = some y0 ∧ DataW.trod henc P w base spare held n f1.type ((cs.drop f1.offset).take (P.cellsOf f1.type)) = some y1 := by
  obtain ⟨xs, n, _, rfl, hl, hlen, hf⟩ := DataW.trod_struct ht h
  match xs, hlen with
  | [y0, y1], _ => exact ⟨y0, y1, n, hl, by simpa using hf 0 f0 rfl, by simpa using hf 1 f1 rfl⟩
theorem trodS4 {P : Program} {t : TypeId} {f0 f1 f2 f3 : Field} {fuel : Nat} {cs : List Value} {x : DataW H × List MemPlace} (ht : P.underlying t = some (.struct #[f0, f1, f2, f3])) (h : DataW.trod henc P w base spare held fuel t cs = some x) :
    ∃ y0 y1 y2 y3 n, cs.length = P.cellsOf t ∧ DataW.trod henc P w base spare held n f0.type ((cs.drop f0.offset).take (P.cellsOf f0.type)) = some y0 ∧ DataW.trod henc P w base spare held n f1.type ((cs.drop f1.offset).take (P.cellsOf f1.type)) = some y1 ∧ DataW.trod henc P w base spare held n f2.type ((cs.drop f2.offset).take (P.cellsOf f2.type)) = some y2 ∧ DataW.trod henc P w base spare held n f3.type ((cs.drop f3.offset).take (P.cellsOf f3.type)) = some y3 := by
  obtain ⟨xs, n, _, rfl, hl, hlen, hf⟩ := DataW.trod_struct ht h
  match xs, hlen with
  | [y0, y1, y2, y3], _ => exact ⟨y0, y1, y2, y3, n, hl, by simpa using hf 0 f0 rfl, by simpa using hf 1 f1 rfl, by simpa using hf 2 f2 rfl, by simpa using hf 3 f3 rfl⟩
theorem trodS5 {P : Program} {t : TypeId} {f0 f1 f2 f3 f4 : Field} {fuel : Nat} {cs : List Value} {x : DataW H × List MemPlace} (ht : P.underlying t = some (.struct #[f0, f1, f2, f3, f4])) (h : DataW.trod henc P w base spare held fuel t cs = some x) :
    ∃ y0 y1 y2 y3 y4 n, cs.length = P.cellsOf t ∧ DataW.trod henc P w base spare held n f0.type ((cs.drop f0.offset).take (P.cellsOf f0.type)) = some y0 ∧ DataW.trod henc P w base spare held n f1.type ((cs.drop f1.offset).take (P.cellsOf f1.type)) = some y1 ∧ DataW.trod henc P w base spare held n f2.type ((cs.drop f2.offset).take (P.cellsOf f2.type)) = some y2 ∧ DataW.trod henc P w base spare held n f3.type ((cs.drop f3.offset).take (P.cellsOf f3.type)) = some y3 ∧ DataW.trod henc P w base spare held n f4.type ((cs.drop f4.offset).take (P.cellsOf f4.type)) = some y4 := by
  obtain ⟨xs, n, _, rfl, hl, hlen, hf⟩ := DataW.trod_struct ht h
  match xs, hlen with
  | [y0, y1, y2, y3, y4], _ => exact ⟨y0, y1, y2, y3, y4, n, hl, by simpa using hf 0 f0 rfl, by simpa using hf 1 f1 rfl, by simpa using hf 2 f2 rfl, by simpa using hf 3 f3 rfl, by simpa using hf 4 f4 rfl⟩
theorem trodS6 {P : Program} {t : TypeId} {f0 f1 f2 f3 f4 f5 : Field} {fuel : Nat} {cs : List Value} {x : DataW H × List MemPlace} (ht : P.underlying t = some (.struct #[f0, f1, f2, f3, f4, f5])) (h : DataW.trod henc P w base spare held fuel t cs = some x) :
    ∃ y0 y1 y2 y3 y4 y5 n, cs.length = P.cellsOf t ∧ DataW.trod henc P w base spare held n f0.type ((cs.drop f0.offset).take (P.cellsOf f0.type)) = some y0 ∧ DataW.trod henc P w base spare held n f1.type ((cs.drop f1.offset).take (P.cellsOf f1.type)) = some y1 ∧ DataW.trod henc P w base spare held n f2.type ((cs.drop f2.offset).take (P.cellsOf f2.type)) = some y2 ∧ DataW.trod henc P w base spare held n f3.type ((cs.drop f3.offset).take (P.cellsOf f3.type)) = some y3 ∧ DataW.trod henc P w base spare held n f4.type ((cs.drop f4.offset).take (P.cellsOf f4.type)) = some y4 ∧ DataW.trod henc P w base spare held n f5.type ((cs.drop f5.offset).take (P.cellsOf f5.type)) = some y5 := by
  obtain ⟨xs, n, _, rfl, hl, hlen, hf⟩ := DataW.trod_struct ht h
  match xs, hlen with
  | [y0, y1, y2, y3, y4, y5], _ => exact ⟨y0, y1, y2, y3, y4, y5, n, hl, by simpa using hf 0 f0 rfl, by simpa using hf 1 f1 rfl, by simpa using hf 2 f2 rfl, by simpa using hf 3 f3 rfl, by simpa using hf 4 f4 rfl, by simpa using hf 5 f5 rfl⟩
theorem trodS8 {P : Program} {t : TypeId} {f0 f1 f2 f3 f4 f5 f6 f7 : Field} {fuel : Nat} {cs : List Value} {x : DataW H × List MemPlace} (ht : P.underlying t = some (.struct #[f0, f1, f2, f3, f4, f5, f6, f7])) (h : DataW.trod henc P w base spare held fuel t cs = some x) :
    ∃ y0 y1 y2 y3 y4 y5 y6 y7 n, cs.length = P.cellsOf t ∧ DataW.trod henc P w base spare held n f0.type ((cs.drop f0.offset).take (P.cellsOf f0.type)) = some y0 ∧ DataW.trod henc P w base spare held n f1.type ((cs.drop f1.offset).take (P.cellsOf f1.type)) = some y1 ∧ DataW.trod henc P w base spare held n f2.type ((cs.drop f2.offset).take (P.cellsOf f2.type)) = some y2 ∧ DataW.trod henc P w base spare held n f3.type ((cs.drop f3.offset).take (P.cellsOf f3.type)) = some y3 ∧ DataW.trod henc P w base spare held n f4.type ((cs.drop f4.offset).take (P.cellsOf f4.type)) = some y4 ∧ DataW.trod henc P w base spare held n f5.type ((cs.drop f5.offset).take (P.cellsOf f5.type)) = some y5 ∧ DataW.trod henc P w base spare held n f6.type ((cs.drop f6.offset).take (P.cellsOf f6.type)) = some y6 ∧ DataW.trod henc P w base spare held n f7.type ((cs.drop f7.offset).take (P.cellsOf f7.type)) = some y7 := by
  obtain ⟨xs, n, _, rfl, hl, hlen, hf⟩ := DataW.trod_struct ht h
  match xs, hlen with
  | [y0, y1, y2, y3, y4, y5, y6, y7], _ => exact ⟨y0, y1, y2, y3, y4, y5, y6, y7, n, hl, by simpa using hf 0 f0 rfl, by simpa using hf 1 f1 rfl, by simpa using hf 2 f2 rfl, by simpa using hf 3 f3 rfl, by simpa using hf 4 f4 rfl, by simpa using hf 5 f5 rfl, by simpa using hf 6 f6 rfl, by simpa using hf 7 f7 rfl⟩
set_option maxRecDepth 100000 in
theorem ctr_cells {n : Nat} {cs : List Value} {y : DataW H × List MemPlace} (h : DataW.trod henc Tryz.prog w base spare held n 100 cs = some y) : ∃ a, cs = encCtr a ∧ wfCtr a := by
  obtain ⟨y0, y1, y2, y3, m, hl, h0, h1, h2, h3⟩ := trodS4 Tryz.underlying100 h
  have hl1 : cs.length = 4 := hl.trans (by kernel_rfl)
  match cs, hl1 with
  | [c0, c1, c2, c3], _ =>
    obtain ⟨a0, e0, _, w0⟩ := DataW.trod_string Tryz.underlying9 h0
    obtain ⟨a1, e1, _, w1⟩ := DataW.trod_int Tryz.underlying3 h1
    obtain ⟨a2, e2, _, w2⟩ := DataW.trod_int Tryz.underlying3 h2
    obtain ⟨a3, e3, _, w3⟩ := DataW.trod_int Tryz.underlying3 h3
    have g : Tryz.prog.cellsOf 3 = 1 := by kernel_rfl
    have gs : Tryz.prog.cellsOf 9 = 1 := by kernel_rfl
    simp [g, gs] at e0 e1 e2 e3
    subst e0 e1 e2 e3
    exact ⟨⟨a0, a1, a2, a3⟩, rfl, w0, w1, w2, w3⟩
set_option maxRecDepth 100000 in
theorem chg_cells {n : Nat} {cs : List Value} {y : DataW H × List MemPlace} (h : DataW.trod henc Tryz.prog w base spare held n 45 cs = some y) : ∃ a, cs = encChg a ∧ wfChg a := by
  obtain ⟨y0, y1, y2, y3, y4, y5, y6, y7, m, hl, h0, h1, h2, h3, h4, h5, h6, h7⟩ := trodS8 Tryz.underlying45 h
  have hl1 : cs.length = 8 := hl.trans (by kernel_rfl)
  match cs, hl1 with
  | [c0, c1, c2, c3, c4, c5, c6, c7], _ =>
    obtain ⟨a0, e0, _, w0⟩ := DataW.trod_string Tryz.underlying9 h0
    obtain ⟨a1, e1, _, w1⟩ := DataW.trod_int Tryz.underlying3 h1
    obtain ⟨a2, e2, _, w2⟩ := DataW.trod_int Tryz.underlying3 h2
    obtain ⟨a3, e3, _, w3⟩ := DataW.trod_int Tryz.underlying3 h3
    obtain ⟨a4, e4, _, w4⟩ := DataW.trod_int Tryz.underlying3 h4
    obtain ⟨a5, e5, _, w5⟩ := DataW.trod_int Tryz.underlying3 h5
    obtain ⟨a6, e6, _, w6⟩ := DataW.trod_int Tryz.underlying3 h6
    obtain ⟨a7, e7, _, w7⟩ := DataW.trod_int Tryz.underlying3 h7
    have g : Tryz.prog.cellsOf 3 = 1 := by kernel_rfl
    have gs : Tryz.prog.cellsOf 9 = 1 := by kernel_rfl
    simp [g, gs] at e0 e1 e2 e3 e4 e5 e6 e7
    subst e0 e1 e2 e3 e4 e5 e6 e7
    exact ⟨⟨a0, a1, a2, a3, a4, a5, a6, a7⟩, rfl, w0, w1, w2, w3, w4, w5, w6, w7⟩
set_option maxRecDepth 100000 in
theorem bay_cells {n : Nat} {cs : List Value} {y : DataW H × List MemPlace} (h : DataW.trod henc Tryz.prog w base spare held n 103 cs = some y) : ∃ a, cs = encBay a ∧ wfBay a := by
  obtain ⟨y0, y1, m, hl, h0, h1⟩ := trodS2 Tryz.underlying103 h
  have hl1 : cs.length = 2 := hl.trans (by kernel_rfl)
  match cs, hl1 with
  | [c0, c1], _ =>
    obtain ⟨a0, e0, _, w0⟩ := DataW.trod_string Tryz.underlying9 h0
    obtain ⟨a1, e1, _, w1⟩ := DataW.trod_int Tryz.underlying3 h1
    have g : Tryz.prog.cellsOf 3 = 1 := by kernel_rfl
    have gs : Tryz.prog.cellsOf 9 = 1 := by kernel_rfl
    simp [g, gs] at e0 e1
    subst e0 e1
    exact ⟨⟨a0, a1⟩, rfl, w0, w1⟩
set_option maxRecDepth 100000 in
theorem own_cells {n : Nat} {cs : List Value} {y : DataW H × List MemPlace} (h : DataW.trod henc Tryz.prog w base spare held n 151 cs = some y) : ∃ a, cs = encS a ∧ (fun (a : ByteArray) => a.size ≤ maxLen) a := by
  obtain ⟨y0, m, hl, h0⟩ := trodS1 Tryz.underlying151 h
  have hl1 : cs.length = 1 := hl.trans (by kernel_rfl)
  match cs, hl1 with
  | [c0], _ =>
    obtain ⟨a0, e0, _, w0⟩ := DataW.trod_string Tryz.underlying9 h0
    have g : Tryz.prog.cellsOf 3 = 1 := by kernel_rfl
    have gs : Tryz.prog.cellsOf 9 = 1 := by kernel_rfl
    simp [g, gs] at e0
    subst e0
    exact ⟨a0, rfl, w0⟩
set_option maxRecDepth 100000 in
theorem fuse_cells {n : Nat} {cs : List Value} {y : DataW H × List MemPlace} (h : DataW.trod henc Tryz.prog w base spare held n 70 cs = some y) : ∃ a0 a1, cs = [.int .i64 a0, .int .i64 a1] ∧ wfI64 a0 ∧ wfI64 a1 := by
  obtain ⟨y0, y1, m, hl, h0, h1⟩ := trodS2 Tryz.underlying70 h
  have hl1 : cs.length = 2 := hl.trans (by kernel_rfl)
  match cs, hl1 with
  | [c0, c1], _ =>
    obtain ⟨a0, e0, _, w0⟩ := DataW.trod_int Tryz.underlying3 h0
    obtain ⟨a1, e1, _, w1⟩ := DataW.trod_int Tryz.underlying3 h1
    have g : Tryz.prog.cellsOf 3 = 1 := by kernel_rfl
    simp [g] at e0 e1
    subst e0 e1
    exact ⟨a0, a1, rfl, w0, w1⟩
set_option maxRecDepth 100000 in
theorem cable_cells {n : Nat} {cs : List Value} {y : DataW H × List MemPlace} (h : DataW.trod henc Tryz.prog w base spare held n 72 cs = some y) : ∃ a0 a1 a2 a3 a4, cs = [.int .i64 a0, .int .i64 a1, .int .i64 a2, .int .i64 a3, .int .i64 a4] ∧ wfI64 a0 ∧ wfI64 a1 ∧ wfI64 a2 ∧ wfI64 a3 ∧ wfI64 a4 := by
  obtain ⟨y0, y1, y2, y3, y4, m, hl, h0, h1, h2, h3, h4⟩ := trodS5 Tryz.underlying72 h
  have hl1 : cs.length = 5 := hl.trans (by kernel_rfl)
  match cs, hl1 with
  | [c0, c1, c2, c3, c4], _ =>
    obtain ⟨a0, e0, _, w0⟩ := DataW.trod_int Tryz.underlying3 h0
    obtain ⟨a1, e1, _, w1⟩ := DataW.trod_int Tryz.underlying3 h1
    obtain ⟨a2, e2, _, w2⟩ := DataW.trod_int Tryz.underlying3 h2
    obtain ⟨a3, e3, _, w3⟩ := DataW.trod_int Tryz.underlying3 h3
    obtain ⟨a4, e4, _, w4⟩ := DataW.trod_int Tryz.underlying3 h4
    have g : Tryz.prog.cellsOf 3 = 1 := by kernel_rfl
    simp [g] at e0 e1 e2 e3 e4
    subst e0 e1 e2 e3 e4
    exact ⟨a0, a1, a2, a3, a4, rfl, w0, w1, w2, w3, w4⟩
set_option maxRecDepth 100000 in
theorem con_cells {n : Nat} {cs : List Value} {y : DataW H × List MemPlace} (h : DataW.trod henc Tryz.prog w base spare held n 74 cs = some y) : ∃ a, cs = encCon a ∧ wfCon a := by
  obtain ⟨y0, y1, y2, y3, y4, y5, m, hl, h0, h1, h2, h3, h4, h5⟩ := trodS6 Tryz.underlying74 h
  have hl1 : cs.length = 11 := hl.trans (by kernel_rfl)
  match cs, hl1 with
  | [c0, c1, c2, c3, c4, c5, c6, c7, c8, c9, c10], _ =>
    obtain ⟨a0, e0, _, w0⟩ := DataW.trod_string Tryz.underlying9 h0
    obtain ⟨a1, e1, _, w1⟩ := DataW.trod_int Tryz.underlying3 h1
    obtain ⟨a2, e2, _, w2⟩ := DataW.trod_int Tryz.underlying3 h2
    obtain ⟨a3, e3, _, w3⟩ := DataW.trod_int Tryz.underlying3 h3
    obtain ⟨a4, a5, e4, w4, w5⟩ := fuse_cells h4
    obtain ⟨a6, a7, a8, a9, a10, e5, w6, w7, w8, w9, w10⟩ := cable_cells h5
    have g : Tryz.prog.cellsOf 3 = 1 := by kernel_rfl
    have gs : Tryz.prog.cellsOf 9 = 1 := by kernel_rfl
    have gf : Tryz.prog.cellsOf 70 = 2 := by kernel_rfl
    have gc : Tryz.prog.cellsOf 72 = 5 := by kernel_rfl
    simp [g, gs, gf, gc] at e0 e1 e2 e3 e4 e5
    obtain ⟨e40, e41⟩ := e4
    obtain ⟨e50, e51, e52, e53, e54⟩ := e5
    subst e0 e1 e2 e3 e40 e41 e50 e51 e52 e53 e54
    exact ⟨⟨a0, a1, a2, a3, a4, a5, a6, a7, a8, a9, a10⟩, rfl, w0, w1, w2, w3, w4, w5, w6, w7, w8, w9, w10⟩
def encU8 (x : Int) : List Value := [.int .u8 x]
set_option maxRecDepth 100000 in
set_option maxRecDepth 100000 in
theorem ints_openT {r : Reach} {b0 : Nat} {v : Value} {d : DataW H} {ps : List MemPlace} (hval : Value.okWide Tryz.prog w r b0 29 v) (hd : DataW.Trod henc Tryz.prog w base spare held 29 v d ps) :
    ∃ A len cap xs, v = .slice A len cap ∧ xs.length = len ∧ len ≤ maxLen ∧ Rd 1 encI w A xs ∧ ∀ x, x ∈ xs → wfI64 x := by
  obtain ⟨a, l, c, rfl⟩ := okWide_slice Tryz.underlying29 hval
  obtain ⟨fuel, hf⟩ := hd
  obtain ⟨A, len, cap, xs, e1, q1, q2, q3, q4⟩ := rd_open (sz := 1) (enc := encI) (ok := wfI64) Tryz.underlying29 (by kernel_rfl) (by omega) (fun n cs' y h => by
    obtain ⟨a, e, _, w0⟩ := DataW.trod_int Tryz.underlying3 h
    exact ⟨a, e, w0⟩) hf
  simp [Value.cells] at e1
  obtain ⟨rfl, rfl, rfl⟩ := e1
  exact ⟨_, _, _, xs, rfl, q1, q2, q3, q4⟩
structure WfSite (s : GSite) : Prop where
  w1 : ∀ c, c ∈ s.cons → wfCon c
  w3 : ∀ c, c ∈ s.ctrs → wfCtr c
  w4 : ∀ c, c ∈ s.chgs → wfChg c
  w5 : ∀ c, c ∈ s.bays → wfBay c
set_option maxRecDepth 100000 in
theorem site_open {r : Reach} {b0 : Nat} {v : Value} {d : DataW H} {ps : List MemPlace} (hval : Value.okWide Tryz.prog w r b0 28 v) (hd : DataW.Trod henc Tryz.prog w base spare held 28 v d ps) :
    ∃ a1 n1 c1 a2 n2 c2 a3 n3 c3 a4 n4 c4 a5 n5 c5 s, v = .agg #[.slice a1 n1 c1, .slice a2 n2 c2, .slice a3 n3 c3, .slice a4 n4 c4, .slice a5 n5 c5] ∧ RdSite w a1 a2 a3 a4 a5 n1 n2 n3 n4 n5 s ∧ WfSite s := by
  obtain ⟨cs, rfl, hs⟩ := okWide_struct Tryz.underlying28 hval
  obtain ⟨fuel, hf⟩ := hd
  obtain ⟨y0, y1, y2, y3, y4, m, hl, h0, h1, h2, h3, h4⟩ := trodS5 Tryz.underlying28 hf
  obtain ⟨l⟩ := cs
  have hl2 : l.length = 5 := by
    have : Tryz.prog.cellsOf 28 = 5 := by kernel_rfl
    rw [this] at hs
    exact hs
  match l, hl2 with
  | [c0, c1, c2, c3, c4], _ =>
    have g0 : Tryz.prog.cellsOf 22 = 1 := by kernel_rfl
    have g1 : Tryz.prog.cellsOf 23 = 1 := by kernel_rfl
    have g2 : Tryz.prog.cellsOf 24 = 1 := by kernel_rfl
    have g3 : Tryz.prog.cellsOf 25 = 1 := by kernel_rfl
    have g4 : Tryz.prog.cellsOf 26 = 1 := by kernel_rfl
    obtain ⟨A0, l0, k0, x0, e0, p0, q0, r0, o0⟩ := rd_open (sz := 11) (enc := encCon) (ok := wfCon) Tryz.underlying22 (by kernel_rfl) (by omega) (fun n cs' y h => con_cells h) h0
    obtain ⟨A1, l1, k1, x1, e1, p1, q1, r1, o1⟩ := rd_open (sz := 1) (enc := encS) (ok := fun (a : ByteArray) => a.size ≤ maxLen) Tryz.underlying23 (by kernel_rfl) (by omega) (fun n cs' y h => own_cells h) h1
    obtain ⟨A2, l2, k2, x2, e2, p2, q2, r2, o2⟩ := rd_open (sz := 4) (enc := encCtr) (ok := wfCtr) Tryz.underlying24 (by kernel_rfl) (by omega) (fun n cs' y h => ctr_cells h) h2
    obtain ⟨A3, l3, k3, x3, e3, p3, q3, r3, o3⟩ := rd_open (sz := 8) (enc := encChg) (ok := wfChg) Tryz.underlying25 (by kernel_rfl) (by omega) (fun n cs' y h => chg_cells h) h3
    obtain ⟨A4, l4, k4, x4, e4, p4, q4, r4, o4⟩ := rd_open (sz := 2) (enc := encBay) (ok := wfBay) Tryz.underlying26 (by kernel_rfl) (by omega) (fun n cs' y h => bay_cells h) h4
    simp [g0, g1, g2, g3, g4, Value.cells] at e0 e1 e2 e3 e4
    subst e0 e1 e2 e3 e4
    refine ⟨A0, l0, k0, A1, l1, k1, A2, l2, k2, A3, l3, k3, A4, l4, k4, ⟨x0, x1, x2, x3, x4⟩, rfl, ⟨r0, r1, r2, r3, r4, p0, p1, p2, p3, p4, by unfold maxLen at q0; omega, by unfold maxLen at q1; omega, by unfold maxLen at q2; omega, by unfold maxLen at q3; omega, by unfold maxLen at q4; omega, fun x hx => ?_⟩, ⟨o0, o2, o3, o4⟩⟩
    unfold allNames at hx
    simp only [List.mem_append, List.mem_map] at hx
    rcases hx with (((⟨c, hc, rfl⟩ | hc) | ⟨c, hc, rfl⟩) | ⟨c, hc, rfl⟩) | ⟨c, hc, rfl⟩
    · exact (o0 c hc).1
    · exact o1 x hc
    · exact (o2 c hc).1
    · exact (o3 c hc).1
    · exact (o4 c hc).1
end
end Go.Proofs.YtpkonifeieepfaaGreat
/-
Arguments opened: an array of three small numbers, lists of lists of numbers, a proof.
-/
namespace Go.Proofs.YtpkonifeieepfaaGreat
open Go.RowKit Go.ChangeShapes Go.WideShapes Go.Deep
set_option linter.unusedVariables false
set_option linter.unusedSimpArgs false
theorem okWide_array {P : Program} {w : World} {r : Reach} {base : Nat} {t : TypeId} {v : Value} {n : Nat} {e : TypeId} (h : P.underlying t = some (.array n e)) (hv : Value.okWide P w r base t v) : ∃ cs, v = .agg cs ∧ cs.size = P.cellsOf t := by
  unfold Value.okWide at hv
  rw [h] at hv
  obtain ⟨cs, h1, h2, _⟩ := hv
  exact ⟨cs, h1, h2⟩
section
variable {H : Type} {henc : TypeId × Value → H} {w : World} {base : Nat} {spare : Nat → Bool} {held : Bool}
/-- Slices' values in a row: the address, the length, the capacity. -/
abbrev HdT : Type := Option Addr × Nat × Nat
def encHT (h : HdT) : List Value := [.slice h.1 h.2.1 h.2.2]
theorem encHT_len (h : HdT) : (encHT h).length = 1 := rfl
/-- A list of lists that is read. -/
def RdLL (enc : Int → List Value) (W : World) (A : Option Addr) (hs : List HdT) (qs : List (List Int)) : Prop := Rd 1 encHT W A hs ∧ hs.length = qs.length ∧ ∀ (k : Nat) (h : HdT) (q : List Int), hs[k]? = some h → qs[k]? = some q → q.length = h.2.1 ∧ h.2.1 ≤ maxLen ∧ Rd 1 enc W h.1 q
theorem RdLL.keep {enc : Int → List Value} {W W' : World} {A : Option Addr} {hs : List HdT} {qs : List (List Int)} (h : RdLL enc W A hs qs) (hb : Below W.heap.size W W') : RdLL enc W' A hs qs :=
  ⟨h.1.keep hb, h.2.1, fun k x q hx hq => ⟨(h.2.2 k x q hx hq).1, (h.2.2 k x q hx hq).2.1, (h.2.2 k x q hx hq).2.2.keep hb⟩⟩
theorem RdLL.at_ {enc : Int → List Value} {W : World} {A : Option Addr} {hs : List HdT} {qs : List (List Int)} (h : RdLL enc W A hs qs) {k : Nat} (hk : k < qs.length) : ∃ b off a n c q, A = some ⟨b, off, none⟩ ∧ b < W.heap.size ∧ qs[k]? = some q ∧ q.length = n ∧ n ≤ maxLen ∧ Rd 1 enc W a q ∧ W.cell? ⟨b, off + k, none⟩ = some (.slice a n c) := by
  obtain ⟨b, off, x, hA, hb, hx, hc⟩ := h.1.at_ (k := k) (by rw [h.2.1]; exact hk)
  have hr : qs[k]? = some qs[k] := List.getElem?_eq_getElem hk
  obtain ⟨m1, m2, m3⟩ := h.2.2 k x _ hx hr
  obtain ⟨xa, xn, xd⟩ := x
  have h1 := hc 0 _ rfl
  rw [Nat.mul_one, Nat.add_zero] at h1
  exact ⟨b, off, xa, xn, xd, qs[k], hA, hb, hr, m1, m2, m3, h1⟩
theorem rd_ll {enc : Int → List Value} {W : World} {A : Option Addr} : ∀ (rs : List HdT), Rd 1 encHT W A rs → (∀ r, r ∈ rs → ∃ p : List Int, p.length = r.2.1 ∧ r.2.1 ≤ maxLen ∧ Rd 1 enc W r.1 p) → ∃ qs : List (List Int), RdLL enc W A rs qs := by
  intro rs hrd
  have key : ∀ (rs : List HdT), (∀ r, r ∈ rs → ∃ p : List Int, p.length = r.2.1 ∧ r.2.1 ≤ maxLen ∧ Rd 1 enc W r.1 p) → ∃ qs : List (List Int), rs.length = qs.length ∧ ∀ (k : Nat) (r : HdT) (p : List Int), rs[k]? = some r → qs[k]? = some p → p.length = r.2.1 ∧ r.2.1 ≤ maxLen ∧ Rd 1 enc W r.1 p := by
    intro rs
    induction rs with
    | nil => exact fun _ => ⟨[], rfl, fun k r p h => by simp at h⟩
    | cons r rs ih =>
      intro h
      obtain ⟨p, h1, h2, h3⟩ := h r (List.mem_cons_self ..)
      obtain ⟨qs, g1, g2⟩ := ih (fun x hx => h x (List.mem_cons_of_mem _ hx))
      refine ⟨p :: qs, by simp [g1], fun k r' p' hr hp => ?_⟩
      cases k with
      | zero =>
        simp at hr hp
        subst hr hp
        exact ⟨h1, h2, h3⟩
      | succ k => exact g2 k r' p' (by simpa using hr) (by simpa using hp)
  intro h
  obtain ⟨qs, g1, g2⟩ := key rs h
  exact ⟨qs, hrd, g1, g2⟩
end
end Go.Proofs.YtpkonifeieepfaaGreat
