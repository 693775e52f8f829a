/-
The reference's Check.
-/
import Derived.Test.YtoekpdnpncgeeaaGreatGLLimG
import Derived.Test.YtoekpdnpncgeeaaGreatGLRefD
namespace Go.Proofs.YtoekpdnpncgeeaaGreat
open Go.RowKit
set_option linter.unusedVariables false
set_option linter.unusedSimpArgs false
theorem results_ctt {P : Program} {fn : Func} {a t u : Tmp} {ty : TypeId} {tmps : Array Value} {b : Nat} {x : Value} {w : World} (h : fn.results = #[.cell a ty, .tmp t, .tmp u]) (ha : tmps.getD a undef = .pointer (some ⟨b, 0, none⟩)) (hl : (loadVar ty ⟨b, 0, none⟩).run P w = .ok x w) :
    (results fn tmps).run P w = .ok (.tuple #[x, tmps.getD t undef, tmps.getD u undef]) w := by
  have ha' : tmps[a]?.getD undef = .pointer (some ⟨b, 0, none⟩) := by simpa using ha
  simp [results, h, ha', hl, asAddr]
end Go.Proofs.YtoekpdnpncgeeaaGreat
