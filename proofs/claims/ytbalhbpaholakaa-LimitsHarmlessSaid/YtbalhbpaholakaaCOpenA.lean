/-
Arguments opened: an array of three small numbers, lists of lists of numbers, a proof.
-/
import Derived.Test.YtbalhbpaholakaaCOpenS
import Derived.Test.YtbalhbpaholakaaGLTreeE
namespace Go.Proofs.Ytbalhbpaholakaa
open Go.RowKit Go.ChangeShapes Go.WideShapes Go.Deep
set_option linter.unusedVariables false
set_option linter.unusedSimpArgs false
theorem okWide_array {P : Program} {w : World} {r : Reach} {base : Nat} {t : TypeId} {v : Value} {n : Nat} {e : TypeId} (h : P.underlying t = some (.array n e)) (hv : Value.okWide P w r base t v) : ∃ cs, v = .agg cs ∧ cs.size = P.cellsOf t := by
  unfold Value.okWide at hv
  rw [h] at hv
  obtain ⟨cs, h1, h2, _⟩ := hv
  exact ⟨cs, h1, h2⟩
section
variable {H : Type} {henc : TypeId × Value → H} {w : World} {base : Nat} {spare : Nat → Bool} {held : Bool}
/-- Slices' values in a row: the address, the length, the capacity. -/
abbrev HdT : Type := Option Addr × Nat × Nat
def encHT (h : HdT) : List Value := [.slice h.1 h.2.1 h.2.2]
theorem encHT_len (h : HdT) : (encHT h).length = 1 := rfl
/-- A list of lists that is read. -/
def RdLL (enc : Int → List Value) (W : World) (A : Option Addr) (hs : List HdT) (qs : List (List Int)) : Prop := Rd 1 encHT W A hs ∧ hs.length = qs.length ∧ ∀ (k : Nat) (h : HdT) (q : List Int), hs[k]? = some h → qs[k]? = some q → q.length = h.2.1 ∧ h.2.1 ≤ maxLen ∧ Rd 1 enc W h.1 q
theorem RdLL.keep {enc : Int → List Value} {W W' : World} {A : Option Addr} {hs : List HdT} {qs : List (List Int)} (h : RdLL enc W A hs qs) (hb : Below W.heap.size W W') : RdLL enc W' A hs qs :=
  ⟨h.1.keep hb, h.2.1, fun k x q hx hq => ⟨(h.2.2 k x q hx hq).1, (h.2.2 k x q hx hq).2.1, (h.2.2 k x q hx hq).2.2.keep hb⟩⟩
theorem RdLL.at_ {enc : Int → List Value} {W : World} {A : Option Addr} {hs : List HdT} {qs : List (List Int)} (h : RdLL enc W A hs qs) {k : Nat} (hk : k < qs.length) : ∃ b off a n c q, A = some ⟨b, off, none⟩ ∧ b < W.heap.size ∧ qs[k]? = some q ∧ q.length = n ∧ n ≤ maxLen ∧ Rd 1 enc W a q ∧ W.cell? ⟨b, off + k, none⟩ = some (.slice a n c) := by
  obtain ⟨b, off, x, hA, hb, hx, hc⟩ := h.1.at_ (k := k) (by rw [h.2.1]; exact hk)
  have hr : qs[k]? = some qs[k] := List.getElem?_eq_getElem hk
  obtain ⟨m1, m2, m3⟩ := h.2.2 k x _ hx hr
  obtain ⟨xa, xn, xd⟩ := x
  have h1 := hc 0 _ rfl
  rw [Nat.mul_one, Nat.add_zero] at h1
  exact ⟨b, off, xa, xn, xd, qs[k], hA, hb, hr, m1, m2, m3, h1⟩
theorem rd_ll {enc : Int → List Value} {W : World} {A : Option Addr} : ∀ (rs : List HdT), Rd 1 encHT W A rs → (∀ r, r ∈ rs → ∃ p : List Int, p.length = r.2.1 ∧ r.2.1 ≤ maxLen ∧ Rd 1 enc W r.1 p) → ∃ qs : List (List Int), RdLL enc W A rs qs := by
  intro rs hrd
  have key : ∀ (rs : List HdT), (∀ r, r ∈ rs → ∃ p : List Int, p.length = r.2.1 ∧ r.2.1 ≤ maxLen ∧ Rd 1 enc W r.1 p) → ∃ qs : List (List Int), rs.length = qs.length ∧ ∀ (k : Nat) (r : HdT) (p : List Int), rs[k]? = some r → qs[k]? = some p → p.length = r.2.1 ∧ r.2.1 ≤ maxLen ∧ Rd 1 enc W r.1 p := by
    intro rs
    induction rs with
    | nil => exact fun _ => ⟨[], rfl, fun k r p h => by simp at h⟩
    | cons r rs ih =>
      intro h
      obtain ⟨p, h1, h2, h3⟩ := h r (List.mem_cons_self ..)
      obtain ⟨qs, g1, g2⟩ := ih (fun x hx => h x (List.mem_cons_of_mem _ hx))
      refine ⟨p :: qs, by simp [g1], fun k r' p' hr hp => ?_⟩
      cases k with
      | zero =>
        simp at hr hp
        subst hr hp
        exact ⟨h1, h2, h3⟩
      | succ k => exact g2 k r' p' (by simpa using hr) (by simpa using hp)
  intro h
  obtain ⟨qs, g1, g2⟩ := key rs h
  exact ⟨qs, hrd, g1, g2⟩
set_option maxRecDepth 100000 in
theorem u8x3_open {r : Reach} {b0 : Nat} {v : Value} {d : DataW H} {ps : List MemPlace} (hval : Value.okWide Try.prog w r b0 48 v) (hd : DataW.Trod henc Try.prog w base spare held 48 v d ps) :
    ∃ x0 x1 x2, v = .agg #[.int .u8 x0, .int .u8 x1, .int .u8 x2] ∧ (0 ≤ x0 ∧ x0 ≤ 255) ∧ (0 ≤ x1 ∧ x1 ≤ 255) ∧ (0 ≤ x2 ∧ x2 ≤ 255) := by
  obtain ⟨cs, rfl, hs⟩ := okWide_array Try.underlying48 hval
  obtain ⟨fuel, hf⟩ := hd
  obtain ⟨xs, m, _, _, hl, hlen, he⟩ := DataW.trod_array Try.underlying48 hf
  obtain ⟨l⟩ := cs
  have hl3 : l.length = 3 := by
    have : Try.prog.cellsOf 48 = 3 := by kernel_rfl
    rw [this] at hs
    exact hs
  match xs, hlen, l, hl3 with
  | [y0, y1, y2], _, [c0, c1, c2], _ =>
    have g : Try.prog.cellsOf 5 = 1 := by kernel_rfl
    rw [g] at he
    obtain ⟨a0, e0, _, w0⟩ := DataW.trod_int Try.underlying5 (he 0 (by omega))
    obtain ⟨a1, e1, _, w1⟩ := DataW.trod_int Try.underlying5 (he 1 (by omega))
    obtain ⟨a2, e2, _, w2⟩ := DataW.trod_int Try.underlying5 (he 2 (by omega))
    simp [Value.cells] at e0 e1 e2
    subst e0 e1 e2
    have hb : ∀ x, (Lit.int .u8 x).wf = true → 0 ≤ x ∧ x ≤ 255 := fun x hx => by
      simp [Lit.wf, IntKind.min, IntKind.max, IntKind.signed, IntKind.bits] at hx
      simpa using hx
    exact ⟨a0, a1, a2, rfl, hb _ w0, hb _ w1, hb _ w2⟩
set_option maxRecDepth 100000 in
theorem ticks_open {r : Reach} {b0 : Nat} {v : Value} {d : DataW H} {ps : List MemPlace} (hval : Value.okWide Try.prog w r b0 57 v) (hd : DataW.Trod henc Try.prog w base spare held 57 v d ps) :
    ∃ A len cap rs qs, v = .slice A len cap ∧ qs.length = len ∧ len ≤ maxLen ∧ RdLL encI w A rs qs := by
  obtain ⟨a, l, c, rfl⟩ := okWide_slice Try.underlying57 hval
  obtain ⟨fuel, hf⟩ := hd
  obtain ⟨A, len, cap, rs, e1, q1, q2, q3, q4⟩ := rd_open (sz := 1) (enc := encHT) (ok := fun r => ∃ p : List Int, p.length = r.2.1 ∧ r.2.1 ≤ maxLen ∧ Rd 1 encI w r.1 p) Try.underlying57 (by kernel_rfl) (by omega) (fun n cs' y h => by
    obtain ⟨A, len, cap, xs, e, h1, h2, h3, _⟩ := rd_open (sz := 1) (enc := encI) (ok := wfI64) Try.underlying29 (by kernel_rfl) (by omega) (fun n cs' y h => by
      obtain ⟨a, e, _, w0⟩ := DataW.trod_int Try.underlying3 h
      exact ⟨a, e, w0⟩) h
    exact ⟨⟨A, len, cap⟩, e, xs, h1, h2, h3⟩) hf
  simp [Value.cells] at e1
  obtain ⟨rfl, rfl, rfl⟩ := e1
  obtain ⟨qs, hq⟩ := rd_ll (enc := encI) rs q3 q4
  exact ⟨_, _, _, rs, qs, rfl, by have := hq.2.1; omega, q2, hq⟩
def wf3 (r : R3) : Prop := wfI64 r.1 ∧ wfI64 r.2.1 ∧ wfI64 r.2.2
set_option maxRecDepth 100000 in
theorem row3_cells {n : Nat} {cs : List Value} {y : DataW H × List MemPlace} (h : DataW.trod henc Try.prog w base spare held n 60 cs = some y) : ∃ a, cs = enc3 a ∧ wf3 a := by
  obtain ⟨xs, m, _, _, hl, hlen, he⟩ := DataW.trod_array Try.underlying60 h
  have hl3 : cs.length = 3 := hl.trans (by kernel_rfl)
  match xs, hlen, cs, hl3 with
  | [y0, y1, y2], _, [c0, c1, c2], _ =>
    have g : Try.prog.cellsOf 3 = 1 := by kernel_rfl
    rw [g] at he
    obtain ⟨a0, e0, _, w0⟩ := DataW.trod_int Try.underlying3 (he 0 (by omega))
    obtain ⟨a1, e1, _, w1⟩ := DataW.trod_int Try.underlying3 (he 1 (by omega))
    obtain ⟨a2, e2, _, w2⟩ := DataW.trod_int Try.underlying3 (he 2 (by omega))
    simp at e0 e1 e2
    subst e0 e1 e2
    exact ⟨(a0, a1, a2), rfl, w0, w1, w2⟩
set_option maxRecDepth 100000 in
theorem proof_open {r : Reach} {b0 : Nat} {v : Value} {d : DataW H} {ps : List MemPlace} (hval : Value.okWide Try.prog w r b0 68 v) (hd : DataW.Trod henc Try.prog w base spare held 68 v d ps) :
    ∃ A len cap xs, v = .agg #[.slice A len cap] ∧ xs.length = len ∧ len ≤ maxLen ∧ Rd 3 enc3 w A xs ∧ ∀ x, x ∈ xs → wf3 x := by
  obtain ⟨cs, rfl, hs⟩ := okWide_struct Try.underlying68 hval
  obtain ⟨fuel, hf⟩ := hd
  obtain ⟨y0, m, hl, h0⟩ := trodS1 Try.underlying68 hf
  obtain ⟨l⟩ := cs
  have hl1 : l.length = 1 := by
    have : Try.prog.cellsOf 68 = 1 := by kernel_rfl
    rw [this] at hs
    exact hs
  match l, hl1 with
  | [c0], _ =>
    have g : Try.prog.cellsOf 66 = 1 := by kernel_rfl
    obtain ⟨A, len, cap, xs, e1, q1, q2, q3, q4⟩ := rd_open (sz := 3) (enc := enc3) (ok := wf3) Try.underlying66 (by kernel_rfl) (by omega) (fun n cs' y h => row3_cells h) h0
    simp [g, Value.cells] at e1
    subst e1
    exact ⟨A, len, cap, xs, rfl, q1, q2, q3, q4⟩
end
end Go.Proofs.Ytbalhbpaholakaa
