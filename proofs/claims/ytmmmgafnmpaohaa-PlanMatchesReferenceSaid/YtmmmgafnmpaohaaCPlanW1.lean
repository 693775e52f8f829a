/-
The laws PlanProof and PlanNotBoth, walked.
-/
import Derived.Test.YtmmmgafnmpaohaaGHead
import Derived.Test.YtmmmgafnmpaohaaGPlanP
import Derived.Test.YtmmmgafnmpaohaaGRefA
import Derived.Test.YtmmmgafnmpaohaaGOpen
namespace Go.Proofs.Ytmmmgafnmpaohaa
open Go.RowKit
set_option linter.unusedVariables false
theorem RdP.nil {w : World} {A : Option Addr} : RdP w A [] [] := ⟨Rd.nil, rfl, fun k r p h => by simp at h⟩
end Go.Proofs.Ytmmmgafnmpaohaa
