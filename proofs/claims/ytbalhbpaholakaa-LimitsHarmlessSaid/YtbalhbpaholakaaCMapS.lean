/-
A set that the call makes: map[string]bool | map[int]bool, filled by 'm[x] = true', asked by 'm[x]'.
-/
import Derived.Test.YtbalhbpaholakaaGBase
import Derived.Maps.Own
import Derived.Maps.Views
import Derived.Maps.OwnSet
namespace Go.Proofs.Ytbalhbpaholakaa
open Go.RowKit Go.Maps
set_option linter.unusedVariables false
noncomputable def inS (l : List Lit) (kl : Lit) : Bool := @decide (kl ∈ l) (Classical.propDecidable _)
theorem inS_iff {l : List Lit} {kl : Lit} : inS l kl = true ↔ kl ∈ l := @decide_eq_true_iff _ (Classical.propDecidable _)
theorem inS_no {l : List Lit} {kl : Lit} (h : ¬ kl ∈ l) : inS l kl = false := by
  cases e : inS l kl
  · rfl
  · exact absurd (inS_iff.1 e) h
section
variable {P : Program} {t k e : TypeId}
theorem plainElem_bool_inv {e : TypeId} (he : P.underlying e = some .bool) {v : Value} {z : DataW Unit × List MemPlace} (h : plainElem P e v = some z) : ∃ b, v = .bool b ∧ z = (.lit (.bool b), []) := by
  unfold plainElem at h
  rw [he] at h
  cases v <;> simp at h
  exact ⟨_, rfl, h.symm⟩
/-- Block b is a map that holds exactly the keys of l, each with true; at most n of them. -/
def SetM (P : Program) (k e : TypeId) (w : World) (b n : Nat) (l : List Lit) : Prop :=
  ∃ D : DataW Unit, w.ownsMap P k (plainElem P e) b n D ∧ ∀ kl, WideAt.IsKeyLit kl → D.atKey kl (.lit (.bool false)) = .lit (.bool (inS l kl))
theorem SetM.made (w : World) : SetM P k e (w.alloc (.map #[] 0)) w.heap.size 0 [] := by
  refine ⟨.map [], World.ownsMap_made w P k _, fun kl _ => ?_⟩
  rw [inS_no (by simp)]
  rfl
theorem SetM.lt {w : World} {b n : Nat} {l : List Lit} (h : SetM P k e w b n l) : b < w.heap.size := by
  obtain ⟨D, h1, _⟩ := h
  exact h1.lt
theorem SetM.keep {w w' : World} {b n : Nat} {l : List Lit} (h : SetM P k e w b n l) (hb : Below w.heap.size w w') : SetM P k e w' b n l := by
  obtain ⟨D, ⟨es, clock, h1, h2⟩, h3⟩ := h
  have hlt := World.ownsMap.lt ⟨es, clock, h1, h2⟩
  exact ⟨D, ⟨es, clock, (hb.block b hlt).trans h1, h2⟩, h3⟩
theorem SetM.look {w : World} {b n : Nat} {l : List Lit} (h : SetM P k e w b n l) (K : Keyed P k) (ht : P.underlying t = some (.map k e)) (he : P.underlying e = some .bool) (hz : (zeroValue e).run P w = .ok (.bool false) w) {key : Value} {kl : Lit} (hkey : keyOf P k key = some kl) (hkl : WideAt.IsKeyLit kl) :
    (Instr.lookup t (.map (some b)) key false).run P w = .ok (.bool (inS l kl)) w := by
  obtain ⟨D, h1, h2⟩ := h
  obtain ⟨v, ps, hrun, hv⟩ := h1.lookup K ht hz (plainElem_bool he false) hkey
  obtain ⟨c, rfl, hc⟩ := plainElem_bool_inv he hv
  rw [h2 kl hkl] at hc
  injection hc with hc
  injection hc with hc
  injection hc with hc
  rw [hrun, ← hc]
theorem SetM.put {w : World} {b n : Nat} {l : List Lit} (h : SetM P k e w b n l) (K : Keyed P k) (ht : P.underlying t = some (.map k e)) (he : P.underlying e = some .bool) (hn : n < 1000000) {key : Value} {kl : Lit} (hkey : keyOf P k key = some kl) (hkl : WideAt.IsKeyLit kl) :
    ∃ w', (Instr.mapUpdate t (.map (some b)) key (.bool true)).run P w = .ok () w' ∧ Hid (SetM P k e w' b (n + 1) (l ++ [kl])) ∧ Hid (Mod (fun q => q = b) w w') := by
  obtain ⟨D, h1, h2⟩ := h
  obtain ⟨w', hrun, ho, hg⟩ := h1.update K ht (by unfold maxLen; omega) hkey (plainElem_bool he true)
  have hm : IsMap D := h1.isMap
  refine ⟨w', hrun, Lib.hid ⟨_, ho, fun kl' hk' => ?_⟩, Lib.hid ⟨hg.os, hg.tape, hg.output, hg.size, fun q hq hne => hg.block q hq (fun e => hne (by injection e))⟩⟩
  by_cases e1 : kl' = kl
  · subst e1
    rw [atKey_put_same hm hkl, inS_iff.2 (by simp)]
  · rw [atKey_put_other e1, h2 kl' hk']
    congr 2
    rw [Bool.eq_iff_iff, inS_iff, inS_iff, List.mem_append, List.mem_singleton]
    exact ⟨fun h => .inl h, fun h => h.elim id (fun h => absurd h e1)⟩
end
end Go.Proofs.Ytbalhbpaholakaa
