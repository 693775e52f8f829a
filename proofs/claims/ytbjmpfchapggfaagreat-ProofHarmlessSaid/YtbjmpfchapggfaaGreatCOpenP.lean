/-
Arguments opened: a list of lists of bytes.
-/
import Derived.Test.YtbjmpfchapggfaaGreatGLOpen
namespace Go.Proofs.YtbjmpfchapggfaaGreat
open Go.RowKit Go.ChangeShapes Go.WideShapes Go.Deep
set_option linter.unusedVariables false
set_option linter.unusedSimpArgs false
section
variable {H : Type} {henc : TypeId × Value → H} {w : World} {base : Nat} {spare : Nat → Bool} {held : Bool}
/-- Lists of lists of bytes that are read. -/
def RdLB (W : World) (A : Option Addr) (hs : List HdT) (qs : List (List Int)) : Prop := RdLL encU8 W A hs qs ∧ ∀ q, q ∈ qs → ∀ x, x ∈ q → (Lit.int .u8 x).wf = true
theorem RdLB.keep {W W' : World} {A : Option Addr} {hs : List HdT} {qs : List (List Int)} (h : RdLB W A hs qs) (hb : Below W.heap.size W W') : RdLB W' A hs qs := ⟨h.1.keep hb, h.2⟩
theorem rd_lb {W : World} {A : Option Addr} : ∀ (rs : List HdT), Rd 1 encHT W A rs → (∀ r, r ∈ rs → ∃ p : List Int, p.length = r.2.1 ∧ r.2.1 ≤ maxLen ∧ Rd 1 encU8 W r.1 p ∧ ∀ x, x ∈ p → (Lit.int .u8 x).wf = true) → ∃ qs : List (List Int), RdLB W A rs qs := by
  intro rs hrd
  have key : ∀ (rs : List HdT), (∀ r, r ∈ rs → ∃ p : List Int, p.length = r.2.1 ∧ r.2.1 ≤ maxLen ∧ Rd 1 encU8 W r.1 p ∧ ∀ x, x ∈ p → (Lit.int .u8 x).wf = true) → ∃ qs : List (List Int), rs.length = qs.length ∧ (∀ (k : Nat) (r : HdT) (p : List Int), rs[k]? = some r → qs[k]? = some p → p.length = r.2.1 ∧ r.2.1 ≤ maxLen ∧ Rd 1 encU8 W r.1 p) ∧ ∀ q, q ∈ qs → ∀ x, x ∈ q → (Lit.int .u8 x).wf = true := by
    intro rs
    induction rs with
    | nil => exact fun _ => ⟨[], rfl, fun k r p h => by simp at h, fun q h => by cases h⟩
    | cons r rs ih =>
      intro h
      obtain ⟨p, h1, h2, h3, h4⟩ := h r (List.mem_cons_self ..)
      obtain ⟨qs, g1, g2, g3⟩ := ih (fun x hx => h x (List.mem_cons_of_mem _ hx))
      refine ⟨p :: qs, by simp [g1], fun k r' p' hr hp => ?_, fun q hq => ?_⟩
      · cases k with
        | zero =>
          simp at hr hp
          subst hr hp
          exact ⟨h1, h2, h3⟩
        | succ k => exact g2 k r' p' (by simpa using hr) (by simpa using hp)
      · rcases List.mem_cons.1 hq with e | e
        · rw [e]; exact h4
        · exact g3 q e
  intro h
  obtain ⟨qs, g1, g2, g3⟩ := key rs h
  exact ⟨qs, ⟨hrd, g1, g2⟩, g3⟩
set_option maxRecDepth 100000 in
theorem picks_open {r : Reach} {b0 : Nat} {v : Value} {d : DataW H} {ps : List MemPlace} (hval : Value.okWide Tryz.prog w r b0 33 v) (hd : DataW.Trod henc Tryz.prog w base spare held 33 v d ps) :
    ∃ A len cap rs qs, v = .slice A len cap ∧ qs.length = len ∧ len ≤ maxLen ∧ RdLB w A rs qs := by
  obtain ⟨a, l, c, rfl⟩ := okWide_slice Tryz.underlying33 hval
  obtain ⟨fuel, hf⟩ := hd
  obtain ⟨A, len, cap, rs, e1, q1, q2, q3, q4⟩ := rd_open (sz := 1) (enc := encHT) (ok := fun r => ∃ p : List Int, p.length = r.2.1 ∧ r.2.1 ≤ maxLen ∧ Rd 1 encU8 w r.1 p ∧ ∀ x, x ∈ p → (Lit.int .u8 x).wf = true) Tryz.underlying33 (by kernel_rfl) (by omega) (fun n cs' y h => by
    obtain ⟨A, len, cap, xs, e, h1, h2, h3, h4⟩ := rd_open (sz := 1) (enc := encU8) (ok := fun x => (Lit.int .u8 x).wf = true) Tryz.underlying40 (by kernel_rfl) (by omega) (fun n cs' y h => by
      obtain ⟨a, e, _, w0⟩ := DataW.trod_int Tryz.underlying5 h
      exact ⟨a, e, w0⟩) h
    exact ⟨⟨A, len, cap⟩, e, xs, h1, h2, h3, h4⟩) hf
  simp [Value.cells] at e1
  obtain ⟨rfl, rfl, rfl⟩ := e1
  obtain ⟨qs, hq⟩ := rd_lb rs q3 q4
  exact ⟨_, _, _, rs, qs, rfl, by have := hq.1.2.1; omega, q2, hq⟩
end
end Go.Proofs.YtbjmpfchapggfaaGreat
