/-
The memory of plan.CheckCut.
-/
import Derived.Test.YtgfcnkfmgpakkaaCPlanB
import Derived.Test.YtgfcnkfmgpakkaaGPlanC
import Derived.Test.YtgfcnkfmgpakkaaCFlowL
namespace Go.Proofs.Ytgfcnkfmgpakkaa
open Go.RowKit Go.Shelf
set_option linter.unusedVariables false
theorem plMarks_one (A : Option Addr) (c N T : Nat) (xs : List Int) (w : World) (hR : Rd 1 encI w A xs) (HN : Hid (xs.length = N)) (hl : N ≤ 9223372036854775807) (hT : T ≤ 24) :
    Calls Try.prog 70 #[.slice A N c, .int .i64 T] w fun e w' => ∃ v, e = .returned (.tuple #[v, .bool (marksB xs T)]) ∧ Below w.heap.size w w' ∧ (∃ a l k, v = .slice a l k) ∧ (marksB xs T = true → ∃ g, v = .slice (some ⟨g, 0, none⟩) T T ∧ Own w' g 4 T (fun t => .bool (inL xs t)) ∧ w.heap.size ≤ g) := by
  refine (plMarks_any A c N T xs w hR HN hl hT).mono ?_
  rintro e w' (⟨h, rfl, hb⟩ | ⟨h, g, rfl, ho, hg, hb⟩)
  · exact ⟨_, by rw [h], hb, ⟨_, _, _, rfl⟩, fun h2 => by rw [h] at h2; cases h2⟩
  · exact ⟨_, by rw [h], hb, ⟨_, _, _, rfl⟩, fun _ => ⟨g, rfl, ho, hg⟩⟩
theorem one_cellI (v : Value) : ∀ i, i < 1 → (#[v] : Array Value)[i]? = some v := by
  intro i hi
  have : i = 0 := by omega
  subst this
  rfl
/-- The memory of CheckCut. -/
structure CCm (w W : World) (A A3 A4 : Option Addr) (c N c3 N3 c4 N4 T bi br gi : Nat) (cs : List Int) (room : Int) : Prop where
  k0 : W.cell? ⟨w.heap.size, 0, none⟩ = some (.slice A N c)
  k1 : W.cell? ⟨w.heap.size + 1, 0, none⟩ = some (.slice A3 N3 c3)
  k2 : W.cell? ⟨w.heap.size + 1, 1, none⟩ = some (.slice A4 N4 c4)
  ki : W.cell? ⟨bi, 0, none⟩ = some (.slice (some ⟨gi, 0, none⟩) T T)
  ro : Own W br 3 1 (fun _ => .int .i64 room)
  og : Own W gi 4 T (fun t => .bool (inL cs t))
  bel : Below w.heap.size w W
  gl : gi < bi
  bb : w.heap.size + 1 < bi
theorem CCm.set {w W : World} {A A3 A4 : Option Addr} {c N c3 N3 c4 N4 T bi gi : Nat} {cs : List Int} {room : Int} (h : CCm w W A A3 A4 c N c3 N3 c4 N4 T bi (bi + 1) gi cs room) (r : Int) (o : Obj) : CCm w (((W.setCell ⟨bi + 1, 0, none⟩ (.int .i64 r)).alloc o).drew) A A3 A4 c N c3 N3 c4 N4 T bi (bi + 1) gi cs r := by
  have b := h.bb
  have g := h.gl
  have hs : (W.setCell ⟨bi + 1, 0, none⟩ (.int .i64 r)).heap.size = W.heap.size := by simp [World.setCell]
  have far : ∀ (p : Addr) (v : Value), W.cell? p = some v → p.block ≠ bi + 1 → ((W.setCell ⟨bi + 1, 0, none⟩ (.int .i64 r)).alloc o).drew.cell? p = some v := fun p v hp hne => by
    have l := World.block_lt_of_cell? W _ hp
    show ((W.setCell ⟨bi + 1, 0, none⟩ (.int .i64 r)).alloc o).cell? p = some v
    rw [World.cell?_alloc_lt _ _ p (by rw [hs]; exact l), World.cell?_setCell_far _ _ _ _ (fun e => hne e.symm)]
    exact hp
  exact ⟨far _ _ h.k0 (by dsimp only; omega), far _ _ h.k1 (by dsimp only; omega), far _ _ h.k2 (by dsimp only; omega), far _ _ h.ki (by dsimp only; omega), (((h.ro.set 0 (.int .i64 r)).alloc o).drew).congr (fun i hi => by simp [show i = 0 by omega]), ((h.og.other (p := ⟨bi + 1, 0, none⟩) (by dsimp only; omega) _).alloc o).drew, Below.drew ((h.bel.setCell (p := ⟨bi + 1, 0, none⟩) (by dsimp only; omega) _).alloc (by rw [hs]; exact h.bel.size) _), g, b⟩
theorem CCm.keep {w W W' : World} {A A3 A4 : Option Addr} {c N c3 N3 c4 N4 T bi br gi : Nat} {cs : List Int} {room : Int} (h : CCm w W A A3 A4 c N c3 N3 c4 N4 T bi br gi cs room) (hb : Below W.heap.size W W') : CCm w W' A A3 A4 c N c3 N3 c4 N4 T bi br gi cs room :=
  have cl : ∀ {p : Addr} {v : Value}, W.cell? p = some v → W'.cell? p = some v := fun {p v} hp => (hb.cell (World.block_lt_of_cell? W p hp)).trans hp
  ⟨cl h.k0, cl h.k1, cl h.k2, cl h.ki, h.ro.keep hb h.ro.lt, h.og.keep hb h.og.lt, below_then h.bel hb, h.gl, h.bb⟩
theorem taken_below {B B0 : Nat} {W W' : World} (h : Taken B W W') (hB : B0 ≤ B) : Below B0 W W' := ⟨h.1, h.2.1, h.2.2.1, Nat.le_of_eq h.2.2.2.1.symm, fun k hk => h.2.2.2.2.1 k (by omega)⟩
end Go.Proofs.Ytgfcnkfmgpakkaa
