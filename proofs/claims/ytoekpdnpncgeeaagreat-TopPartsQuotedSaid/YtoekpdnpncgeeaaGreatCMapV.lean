/-
A map that the call makes, of strings to values of any kind.
-/
import Derived.Test.YtoekpdnpncgeeaaGreatGBase
import Derived.Maps.Own
import Derived.Maps.Views
import Derived.Maps.OwnSet
import Derived.Maps.Range
namespace Go.Proofs.YtoekpdnpncgeeaaGreat
open Go.RowKit Go.Maps
set_option linter.unusedVariables false
def rAny (v : Value) : Option (DataW Value × List MemPlace) := some (.held v, [])
section
variable {P : Program} {t k e : TypeId}
/-- Block b is a map that holds f. -/
def ValM (P : Program) (k : TypeId) (w : World) (b n : Nat) (f : Lit → Option Value) : Prop :=
  ∃ D : DataW Value, w.ownsMap P k rAny b n D ∧ ∀ kl, WideAt.IsKeyLit kl → Maps.has D kl = (f kl).isSome ∧ ∀ z, D.atKey kl (.held z) = .held ((f kl).getD z)
theorem ValM.made (w : World) : ValM P k (w.alloc (.map #[] 0)) w.heap.size 0 (fun _ => none) :=
  ⟨.map [], World.ownsMap_made w P k _, fun kl _ => ⟨rfl, fun z => rfl⟩⟩
theorem ValM.lt {w : World} {b n : Nat} {f : Lit → Option Value} (h : ValM P k w b n f) : b < w.heap.size := by
  obtain ⟨D, h1, _⟩ := h
  exact h1.lt
theorem ValM.mod {M : Nat → Prop} {w w' : World} {b n : Nat} {f : Lit → Option Value} (h : ValM P k w b n f) (hm : Mod M w w') (hb : ¬ M b) : ValM P k w' b n f := by
  obtain ⟨D, ⟨es, clock, h1, h2⟩, h3⟩ := h
  have hlt := World.ownsMap.lt ⟨es, clock, h1, h2⟩
  exact ⟨D, ⟨es, clock, (hm.block b hlt hb).trans h1, h2⟩, h3⟩
theorem ValM.keep {w w' : World} {b n : Nat} {f : Lit → Option Value} (h : ValM P k w b n f) (hb : Below w.heap.size w w') : ValM P k w' b n f :=
  h.mod (Mod.of_below hb) (by have := h.lt; omega)
theorem ValM.look {w : World} {b n : Nat} {f : Lit → Option Value} (h : ValM P k w b n f) (K : Keyed P k) (ht : P.underlying t = some (.map k e)) {z : Value} (hz : (zeroValue e).run P w = .ok z w) {key : Value} {kl : Lit} (hkey : keyOf P k key = some kl) (hkl : WideAt.IsKeyLit kl) :
    (Instr.lookup t (.map (some b)) key true).run P w = .ok (.tuple #[(f kl).getD z, .bool (f kl).isSome]) w := by
  obtain ⟨D, h1, h2⟩ := h
  obtain ⟨v, ps, hrun, hv⟩ := h1.look_ok K ht hz (zd := .held z) (zp := []) rfl hkey
  obtain ⟨h3, h4⟩ := h2 kl hkl
  rw [h4] at hv
  injection hv with hv
  injection hv with hv
  injection hv with hv
  rw [hrun, hv, h3]
theorem ValM.look1 {w : World} {b n : Nat} {f : Lit → Option Value} (h : ValM P k w b n f) (K : Keyed P k) (ht : P.underlying t = some (.map k e)) {z : Value} (hz : (zeroValue e).run P w = .ok z w) {key : Value} {kl : Lit} (hkey : keyOf P k key = some kl) (hkl : WideAt.IsKeyLit kl) :
    (Instr.lookup t (.map (some b)) key false).run P w = .ok ((f kl).getD z) w := by
  obtain ⟨D, h1, h2⟩ := h
  obtain ⟨v, ps, hrun, hv⟩ := h1.lookup K ht hz (zd := .held z) (zp := []) rfl hkey
  obtain ⟨h3, h4⟩ := h2 kl hkl
  rw [h4] at hv
  injection hv with hv
  injection hv with hv
  injection hv with hv
  rw [hrun, hv]
noncomputable def putF (f : Lit → Option Value) (kl : Lit) (v : Value) : Lit → Option Value := fun x => @ite _ (x = kl) (Classical.propDecidable _) (some v) (f x)
theorem putF_same {f : Lit → Option Value} {kl : Lit} {v : Value} : putF f kl v kl = some v := by unfold putF; exact if_pos rfl
theorem putF_other {f : Lit → Option Value} {kl x : Lit} {v : Value} (h : x ≠ kl) : putF f kl v x = f x := by unfold putF; exact if_neg h
theorem ValM.put {w : World} {b n : Nat} {f : Lit → Option Value} (h : ValM P k w b n f) (K : Keyed P k) (ht : P.underlying t = some (.map k e)) (hn : n < 1000000) {key v : Value} {kl : Lit} (hkey : keyOf P k key = some kl) (hkl : WideAt.IsKeyLit kl) :
    ∃ w', (Instr.mapUpdate t (.map (some b)) key v).run P w = .ok () w' ∧ Hid (ValM P k w' b (n + 1) (putF f kl v)) ∧ Hid (Mod (fun q => q = b) w w') := by
  obtain ⟨D, h1, h2⟩ := h
  obtain ⟨w', hrun, ho, hg⟩ := h1.update K ht (by unfold maxLen; omega) hkey (d := .held v) (ps := []) rfl
  have hm : IsMap D := h1.isMap
  refine ⟨w', hrun, Lib.hid ⟨_, ho, fun kl' hk' => ?_⟩, Lib.hid ⟨hg.os, hg.tape, hg.output, hg.size, fun q hq hne => hg.block q hq (fun e => hne (by injection e))⟩⟩
  by_cases e1 : kl' = kl
  · subst e1
    rw [putF_same]
    exact ⟨has_put_same hm hkl _, fun z => atKey_put_same hm hkl _ _⟩
  · rw [putF_other e1]
    exact ⟨(has_put_other e1 _).trans (h2 kl' hk').1, fun z => (atKey_put_other e1 _ _).trans ((h2 kl' hk').2 z)⟩
end
end Go.Proofs.YtoekpdnpncgeeaaGreat
