/-
How many bytes a slice that came in takes at most.
-/
import Derived.Test.YtickndjlhokppaaGOpen
import Derived.SizedLaws
namespace Go.Proofs.Ytickndjlhokppaa
open Go.RowKit Go.ChangeShapes Go.WideShapes Go.Deep
theorem sized_rows {H : Type} {henc : TypeId × Value → H} {P : Program} {w : World} {base : Nat} {spare : Nat → Bool} {held : Bool} {ts : List TypeId} {ds : List (DataW H)} (hw : (DataW.weightsEach P ts ds).all (· ≤ reachBytes) = true)
    {j : Nat} {t e : TypeId} {d : DataW H} {A : Option Addr} {len cap bytes : Nat} {ps : List MemPlace} (ht : ts[j]? = some t) (hd : ds[j]? = some d) (hu : P.underlying t = some (.slice e)) (h : DataW.Trod henc P w base spare held t (.slice A len cap) d ps)
    (hb : P.bytesOf e = bytes) : len * bytes ≤ 140737488351232 := by
  obtain ⟨fuel, hf⟩ := h
  rcases open_slice hu hf with ⟨h0, _⟩ | ⟨a, len', cap', m, n, D, Pl, hcs, _, _, _, _, hx, _⟩
  · simp [Value.cells] at h0
    rw [h0.2.1]
    omega
  · simp [Value.cells] at hcs
    obtain ⟨_, rfl, _⟩ := hcs
    have hd' : d = .slice ((List.range len).map D) ((List.range (m - len)).map fun j => D (len + j)) := congrArg Prod.fst hx
    rw [hd'] at hd
    have := sized_slice hw ht hd hu
    rw [hb] at this
    simp only [List.length_map, List.length_range] at this
    have h2 : len * bytes ≤ (len + (m - len)) * bytes := Nat.mul_le_mul_right _ (by omega)
    have h3 : reachBytes = 140737488351232 := rfl
    omega
end Go.Proofs.Ytickndjlhokppaa
