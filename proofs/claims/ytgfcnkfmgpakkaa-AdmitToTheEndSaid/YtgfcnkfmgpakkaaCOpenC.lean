/-
A plan that came in: its rows lie within their capacity.
-/
import Derived.Test.YtgfcnkfmgpakkaaGOpen
namespace Go.Proofs.Ytgfcnkfmgpakkaa
open Go.RowKit Go.ChangeShapes Go.WideShapes Go.Deep
variable {H : Type} {henc : TypeId × Value → H} {w : World} {base : Nat} {spare : Nat → Bool} {held : Bool}
set_option maxRecDepth 100000 in
theorem ints_cap {n : Nat} {cs : List Value} {y : DataW H × List MemPlace} (h : DataW.trod henc Try.prog w base spare held n 23 cs = some y) {A : Option Addr} {len cap : Nat} (e : cs = [.slice A len cap]) : len ≤ cap := by
  rcases open_slice Try.underlying23 h with ⟨h0, _⟩ | ⟨a, len', cap', m, n, D, Pl, hcs, _, hl, hm, _⟩
  · rw [e] at h0
    simp at h0
    omega
  · rw [e] at hcs
    simp at hcs
    obtain ⟨_, rfl, rfl⟩ := hcs
    omega
set_option maxRecDepth 100000 in
theorem plan_openC {r : Reach} {b0 : Nat} {v : Value} {d : DataW H} {ps : List MemPlace} (hval : Value.okWide Try.prog w r b0 28 v) (hd : DataW.Trod henc Try.prog w base spare held 28 v d ps) :
    ∃ A len cap rs qs, v = .slice A len cap ∧ qs.length = len ∧ len ≤ maxLen ∧ RdP w A rs qs ∧ ∀ r, r ∈ rs → r.n ≤ r.c := by
  obtain ⟨a, l, c, rfl⟩ := okWide_slice Try.underlying28 hval
  obtain ⟨fuel, hf⟩ := hd
  obtain ⟨A, len, cap, rs, e1, q1, q2, q3, q4⟩ := rd_open (sz := 1) (enc := encRow) (ok := fun r => (∃ p : List Int, p.length = r.n ∧ r.n ≤ maxLen ∧ Rd 1 encI w r.a p) ∧ r.n ≤ r.c) Try.underlying28 (by kernel_rfl) (by omega) (fun n cs' y h => by
    obtain ⟨A, len, cap, xs, e, h1, h2, h3, _⟩ := ints_cells h
    exact ⟨⟨A, len, cap⟩, e, ⟨xs, h1, h2, h3⟩, ints_cap h e⟩) hf
  simp [Value.cells] at e1
  obtain ⟨rfl, rfl, rfl⟩ := e1
  have key : ∀ (rs : List RowV), (∀ r, r ∈ rs → ∃ p : List Int, p.length = r.n ∧ r.n ≤ maxLen ∧ Rd 1 encI w r.a p) → ∃ qs : List (List Int), rs.length = qs.length ∧ ∀ (k : Nat) (r : RowV) (p : List Int), rs[k]? = some r → qs[k]? = some p → p.length = r.n ∧ r.n ≤ 9223372036854775807 ∧ Rd 1 encI w r.a p := by
    intro rs
    induction rs with
    | nil => exact fun _ => ⟨[], rfl, fun k r p h => by simp at h⟩
    | cons r rs ih =>
      intro h
      obtain ⟨p, h1, h2, h3⟩ := h r (List.mem_cons_self ..)
      obtain ⟨qs, g1, g2⟩ := ih (fun x hx => h x (List.mem_cons_of_mem _ hx))
      refine ⟨p :: qs, by simp [g1], fun k r' p' hr hp => ?_⟩
      cases k with
      | zero =>
        simp at hr hp
        subst hr hp
        exact ⟨h1, by unfold maxLen at h2; omega, h3⟩
      | succ k => exact g2 k r' p' (by simpa using hr) (by simpa using hp)
  obtain ⟨qs, g1, g2⟩ := key rs (fun r hr => (q4 r hr).1)
  exact ⟨_, _, _, rs, qs, rfl, by omega, q2, ⟨q3, g1, g2⟩, fun r hr => (q4 r hr).2⟩
end Go.Proofs.Ytgfcnkfmgpakkaa
