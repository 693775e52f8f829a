/-
The network in memory: read by the search, kept by calls, changed by an augmentation.
-/
import Derived.Test.YtmmmgafnmpaohaaCFlowN
import Derived.Test.YtmmmgafnmpaohaaCFlowM
namespace Go.Proofs.Ytmmmgafnmpaohaa
open Go.RowKit Go.Shelf

theorem Net.rd {w : World} {gN gF gA base nn N c : Nat} {A : Option Addr} {es : List GEdge} {fl : List Int} (h : Net w gN gF gA base nn A N c es fl) (hR : Rd 3 encE w A es) (hl : es.length = N) (hok : okG nn es = true) (hf : ∀ i, i < N → 0 ≤ fAt fl i ∧ fAt fl i ≤ (eAt es i).cap) : NetRd w gN gF gA nn N c A es fl := by
  obtain ⟨vs, v1, v2, v3, v4⟩ := h.rows
  refine ⟨h.hd.cell (i := 0) (by omega), h.hd.cell (i := 1) (by omega), h.hd.cell (i := 2) (by omega), h.hd.cell (i := 3) (by omega), fun i hi => h.flow.cell hi, fun u hu => ?_, hR, hl, hok, hf⟩
  obtain ⟨Au, cu, e, hr⟩ := ownsRow_rd (v3 u hu)
  exact ⟨Au, cu, by rw [v1.cell hu, e], hr⟩
theorem Net.mod {M : Nat → Prop} {w w' : World} {gN gF gA base nn N c : Nat} {A : Option Addr} {es : List GEdge} {fl fl' : List Int} (h : Net w gN gF gA base nn A N c es fl) (hm : Mod M w w') (hM : ∀ k, k < w.heap.size → M k → k = gF) (hF : Own w' gF 3 N (fun i => .int .i64 (fAt fl' i))) (hl : fl'.length = N) : Net w' gN gF gA base nn A N c es fl' := by
  obtain ⟨vs, v1, v2, v3, v4⟩ := h.rows
  have nN : gN ≠ gF := h.hd.ne h.flow (by decide)
  have nA : gA ≠ gF := v1.ne h.flow (by decide)
  refine ⟨h.hd.mod hm (fun x => nN (hM _ h.hd.lt x)), hF, ⟨vs, v1.mod hm (fun x => nA (hM _ v1.lt x)), v2, fun u hu => ownsRow_mod (v3 u hu) hm (fun k hk x => ?_), v4⟩, h.ltN, h.ltF, Nat.le_trans h.ltB hm.size, hl⟩
  have h1 := (v3 u hu).lt k hk
  have h2 := hM k h1.2 x
  have h3 := h.ltF
  omega
theorem Net.below {w w' : World} {gN gF gA base nn N c : Nat} {A : Option Addr} {es : List GEdge} {fl : List Int} (h : Net w gN gF gA base nn A N c es fl) (hb : Below w.heap.size w w') : Net w' gN gF gA base nn A N c es fl :=
  h.mod (Mod.of_below hb) (fun k hk x => absurd x (by omega)) (h.flow.keep hb h.flow.lt) h.len
end Go.Proofs.Ytmmmgafnmpaohaa
