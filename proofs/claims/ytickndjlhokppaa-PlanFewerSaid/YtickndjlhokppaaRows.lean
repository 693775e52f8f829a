/-
  No cell of these rows narrows 'for every input' (looked for: loops, veiled, ifaces, maps, wideKeys, modest, calm, conditions, laid).
  DERIVED. THE GIVEN ROWS OF THIS SEAT. 7 by the template 'for every input the law returns true; each argument reads behind the call as it read before'; 0 by the template 'total and deterministic' (their statements: YtickndjlhokppaaTotals.lean).
  GIVEN WITH THE SEED: the statements are not yours to turn. If you find one false, say at which input.
  Laid BY PROGRAM, IN A SANDBOX (cutbox-rows.mjs): the forced cells as the released guide's own fill.sh prints them over the translation d7379d43f97460d1… (all of the seat's roots in one cut). By AI agents, Wed Nov 11 2026. No macro, syntax, notation, axiom, sorry.
-/
import Derived.Test.YtickndjlhokppaaChecked
import GoSem.Claim
import GoSem.ClaimJoined
import GoSem.ClaimMapViews
import Derived.JoinedTies
import Derived.KernelRfl
namespace Go.Proofs.Ytickndjlhokppaa
/- THE CELL 'sum', in the pinned program and in every row, IS THE sha256 OF THE DUMP (.gsa) THAT YtickndjlhokppaaProg.lean LOADS. Nothing in Lean hashes anything: it is a label: what it is worth is what the hold of that sum in a sandbox is worth. -/
noncomputable def Try.pinned : Pinned := { name := "ytickndjlhokppaa", sum := "d7379d43f97460d1cbd04975ffa1282f064bfee59d95fd50b3572b1a8206fbde", checked := Try.checked }
namespace Rows
def none {H : Type} : Left H := { results := [], args := [] }

/-- 'chargeparklaw27.PlanMatchesReference': WHATEVER THE INPUT: true; the input reads as it did. -/
def planMatchesReferenceSpec : ChangeSpec := { name := "planMatchesReference", fn := fun _ => fun
  | [d1, d2, d3, d4] => { results := [.lit (.bool true)], args := [d1, d2, d3, d4] }
  | _ => none }
def planMatchesReferenceRow : OpenClaim := { program := "ytickndjlhokppaa", sum := "d7379d43f97460d1cbd04975ffa1282f064bfee59d95fd50b3572b1a8206fbde", func := "chargepark/chargeparklaw27.PlanMatchesReference", spec := "planMatchesReference", unfollowed := true, recurses := true, apart := false }
def PlanMatchesReferenceSaid : Prop := planMatchesReferenceRow.holds Try.pinned (OpenSpec.ofChange planMatchesReferenceSpec)

/-- ITS FALSE NEIGHBOUR: 'it returns false'. Refute it at one input. -/
def planMatchesReferenceWrong : ChangeSpec := { name := "planMatchesReference", fn := fun _ => fun
  | [d1, d2, d3, d4] => { results := [.lit (.bool false)], args := [d1, d2, d3, d4] }
  | _ => none }
def PlanMatchesReferenceWrongFalsely : Prop := planMatchesReferenceRow.holds Try.pinned (OpenSpec.ofChange planMatchesReferenceWrong)

/-- 'chargeparklaw27.PlanProof': WHATEVER THE INPUT: true; the input reads as it did. -/
def planProofSpec : ChangeSpec := { name := "planProof", fn := fun _ => fun
  | [d1, d2] => { results := [.lit (.bool true)], args := [d1, d2] }
  | _ => none }
def planProofRow : OpenClaim := { program := "ytickndjlhokppaa", sum := "d7379d43f97460d1cbd04975ffa1282f064bfee59d95fd50b3572b1a8206fbde", func := "chargepark/chargeparklaw27.PlanProof", spec := "planProof", unfollowed := true, recurses := true, apart := false }
def PlanProofSaid : Prop := planProofRow.holds Try.pinned (OpenSpec.ofChange planProofSpec)

/-- ITS FALSE NEIGHBOUR: 'it returns false'. Refute it at one input. -/
def planProofWrong : ChangeSpec := { name := "planProof", fn := fun _ => fun
  | [d1, d2] => { results := [.lit (.bool false)], args := [d1, d2] }
  | _ => none }
def PlanProofWrongFalsely : Prop := planProofRow.holds Try.pinned (OpenSpec.ofChange planProofWrong)

/-- 'chargeparklaw27.PlanNotBoth': WHATEVER THE INPUT: true; the input reads as it did. -/
def planNotBothSpec : ChangeSpec := { name := "planNotBoth", fn := fun _ => fun
  | [d1, d2, d3, d4] => { results := [.lit (.bool true)], args := [d1, d2, d3, d4] }
  | _ => none }
def planNotBothRow : OpenClaim := { program := "ytickndjlhokppaa", sum := "d7379d43f97460d1cbd04975ffa1282f064bfee59d95fd50b3572b1a8206fbde", func := "chargepark/chargeparklaw27.PlanNotBoth", spec := "planNotBoth", unfollowed := true, recurses := true, apart := false }
def PlanNotBothSaid : Prop := planNotBothRow.holds Try.pinned (OpenSpec.ofChange planNotBothSpec)

/-- ITS FALSE NEIGHBOUR: 'it returns false'. Refute it at one input. -/
def planNotBothWrong : ChangeSpec := { name := "planNotBoth", fn := fun _ => fun
  | [d1, d2, d3, d4] => { results := [.lit (.bool false)], args := [d1, d2, d3, d4] }
  | _ => none }
def PlanNotBothWrongFalsely : Prop := planNotBothRow.holds Try.pinned (OpenSpec.ofChange planNotBothWrong)

/-- 'chargeparklaw27.PlanFewer': WHATEVER THE INPUT: true; the input reads as it did. -/
def planFewerSpec : ChangeSpec := { name := "planFewer", fn := fun _ => fun
  | [d1, d2, d3, d4, d5, d6, d7] => { results := [.lit (.bool true)], args := [d1, d2, d3, d4, d5, d6, d7] }
  | _ => none }
def planFewerRow : OpenClaim := { program := "ytickndjlhokppaa", sum := "d7379d43f97460d1cbd04975ffa1282f064bfee59d95fd50b3572b1a8206fbde", func := "chargepark/chargeparklaw27.PlanFewer", spec := "planFewer", unfollowed := true, recurses := true, apart := false }
def PlanFewerSaid : Prop := planFewerRow.holds Try.pinned (OpenSpec.ofChange planFewerSpec)

/-- ITS FALSE NEIGHBOUR: 'it returns false'. Refute it at one input. -/
def planFewerWrong : ChangeSpec := { name := "planFewer", fn := fun _ => fun
  | [d1, d2, d3, d4, d5, d6, d7] => { results := [.lit (.bool false)], args := [d1, d2, d3, d4, d5, d6, d7] }
  | _ => none }
def PlanFewerWrongFalsely : Prop := planFewerRow.holds Try.pinned (OpenSpec.ofChange planFewerWrong)

/-- 'chargeparklaw27.PlanOneJob': WHATEVER THE INPUT: true; the input reads as it did. -/
def planOneJobSpec : ChangeSpec := { name := "planOneJob", fn := fun _ => fun
  | [d1, d2] => { results := [.lit (.bool true)], args := [d1, d2] }
  | _ => none }
def planOneJobRow : OpenClaim := { program := "ytickndjlhokppaa", sum := "d7379d43f97460d1cbd04975ffa1282f064bfee59d95fd50b3572b1a8206fbde", func := "chargepark/chargeparklaw27.PlanOneJob", spec := "planOneJob", unfollowed := true, recurses := true, apart := false }
def PlanOneJobSaid : Prop := planOneJobRow.holds Try.pinned (OpenSpec.ofChange planOneJobSpec)

/-- ITS FALSE NEIGHBOUR: 'it returns false'. Refute it at one input. -/
def planOneJobWrong : ChangeSpec := { name := "planOneJob", fn := fun _ => fun
  | [d1, d2] => { results := [.lit (.bool false)], args := [d1, d2] }
  | _ => none }
def PlanOneJobWrongFalsely : Prop := planOneJobRow.holds Try.pinned (OpenSpec.ofChange planOneJobWrong)

/-- 'chargeparklaw27.PlanTurned': WHATEVER THE INPUT: true; the input reads as it did. -/
def planTurnedSpec : ChangeSpec := { name := "planTurned", fn := fun _ => fun
  | [d1, d2, d3, d4] => { results := [.lit (.bool true)], args := [d1, d2, d3, d4] }
  | _ => none }
def planTurnedRow : OpenClaim := { program := "ytickndjlhokppaa", sum := "d7379d43f97460d1cbd04975ffa1282f064bfee59d95fd50b3572b1a8206fbde", func := "chargepark/chargeparklaw27.PlanTurned", spec := "planTurned", unfollowed := true, recurses := true, apart := false }
def PlanTurnedSaid : Prop := planTurnedRow.holds Try.pinned (OpenSpec.ofChange planTurnedSpec)

/-- ITS FALSE NEIGHBOUR: 'it returns false'. Refute it at one input. -/
def planTurnedWrong : ChangeSpec := { name := "planTurned", fn := fun _ => fun
  | [d1, d2, d3, d4] => { results := [.lit (.bool false)], args := [d1, d2, d3, d4] }
  | _ => none }
def PlanTurnedWrongFalsely : Prop := planTurnedRow.holds Try.pinned (OpenSpec.ofChange planTurnedWrong)

/-- 'chargeparklaw27.PlanJoining': WHATEVER THE INPUT: true; the input reads as it did. -/
def planJoiningSpec : ChangeSpec := { name := "planJoining", fn := fun _ => fun
  | [d1, d2, d3, d4, d5] => { results := [.lit (.bool true)], args := [d1, d2, d3, d4, d5] }
  | _ => none }
def planJoiningRow : OpenClaim := { program := "ytickndjlhokppaa", sum := "d7379d43f97460d1cbd04975ffa1282f064bfee59d95fd50b3572b1a8206fbde", func := "chargepark/chargeparklaw27.PlanJoining", spec := "planJoining", unfollowed := true, recurses := true, apart := false }
def PlanJoiningSaid : Prop := planJoiningRow.holds Try.pinned (OpenSpec.ofChange planJoiningSpec)

/-- ITS FALSE NEIGHBOUR: 'it returns false'. Refute it at one input. -/
def planJoiningWrong : ChangeSpec := { name := "planJoining", fn := fun _ => fun
  | [d1, d2, d3, d4, d5] => { results := [.lit (.bool false)], args := [d1, d2, d3, d4, d5] }
  | _ => none }
def PlanJoiningWrongFalsely : Prop := planJoiningRow.holds Try.pinned (OpenSpec.ofChange planJoiningWrong)

/- THE SECOND FORM. 'bulk': how many values and letters a reading holds, each counted each time it is reached (what is shared counts as often as it is met; a slice's spare places count too). A statement '..UptoSaid' is the law's where the arguments, and the package variables that the reading takes, are together of bulk at most 1048576: NARROWER than '..Said'. Prove '..Said' where nothing that the law and all that it calls make is longer than what came in: it says more and counts as full. Else prove '..UptoSaid'. A law counts once. -/
mutual
def uptoBulk {H : Type} : DataW H → Nat
  | .lit (.string bytes) => bytes.length + 1
  | .lit _ => 1
  | .nil => 1
  | .ptr d => uptoBulk d + 1
  | .slice elems spare => uptoBulkAll elems + uptoBulkAll spare + 1
  | .agg parts => uptoBulkAll parts + 1
  | .iface _ d => uptoBulk d + 1
  | .map entries => uptoBulkEntries entries + 1
  | .held _ => 1
def uptoBulkAll {H : Type} : List (DataW H) → Nat
  | [] => 0
  | d :: r => uptoBulk d + uptoBulkAll r
def uptoBulkEntries {H : Type} : List (Lit × DataW H) → Nat
  | [] => 0
  | x :: r => uptoBulkEntry x + uptoBulkEntries r
def uptoBulkEntry {H : Type} : Lit × DataW H → Nat
  | (.string bytes, d) => bytes.length + uptoBulk d + 1
  | (_, d) => uptoBulk d + 1
 end
def uptoSmall : (H : Type) → List (DataW H) → Bool := fun _ ds => decide (uptoBulkAll ds ≤ 1048576)
def OpenSpec.upto (s : _root_.Go.ChangeSpec) : _root_.Go.OpenSpec := { _root_.Go.OpenSpec.ofChange s with cond := some uptoSmall }

/-- 'chargeparklaw27.PlanMatchesReference', WHERE WHAT IT READS IS OF BULK AT MOST 1048576: true; the input reads as it did. -/
def planMatchesReferenceUptoRow : OpenClaim := { program := "ytickndjlhokppaa", sum := "d7379d43f97460d1cbd04975ffa1282f064bfee59d95fd50b3572b1a8206fbde", func := "chargepark/chargeparklaw27.PlanMatchesReference", spec := "planMatchesReference", unfollowed := true, recurses := true, apart := false, narrowed := true }
def PlanMatchesReferenceUptoSaid : Prop := planMatchesReferenceUptoRow.holds Try.pinned (OpenSpec.upto planMatchesReferenceSpec)

/-- 'chargeparklaw27.PlanProof', WHERE WHAT IT READS IS OF BULK AT MOST 1048576: true; the input reads as it did. -/
def planProofUptoRow : OpenClaim := { program := "ytickndjlhokppaa", sum := "d7379d43f97460d1cbd04975ffa1282f064bfee59d95fd50b3572b1a8206fbde", func := "chargepark/chargeparklaw27.PlanProof", spec := "planProof", unfollowed := true, recurses := true, apart := false, narrowed := true }
def PlanProofUptoSaid : Prop := planProofUptoRow.holds Try.pinned (OpenSpec.upto planProofSpec)

/-- 'chargeparklaw27.PlanNotBoth', WHERE WHAT IT READS IS OF BULK AT MOST 1048576: true; the input reads as it did. -/
def planNotBothUptoRow : OpenClaim := { program := "ytickndjlhokppaa", sum := "d7379d43f97460d1cbd04975ffa1282f064bfee59d95fd50b3572b1a8206fbde", func := "chargepark/chargeparklaw27.PlanNotBoth", spec := "planNotBoth", unfollowed := true, recurses := true, apart := false, narrowed := true }
def PlanNotBothUptoSaid : Prop := planNotBothUptoRow.holds Try.pinned (OpenSpec.upto planNotBothSpec)

/-- 'chargeparklaw27.PlanFewer', WHERE WHAT IT READS IS OF BULK AT MOST 1048576: true; the input reads as it did. -/
def planFewerUptoRow : OpenClaim := { program := "ytickndjlhokppaa", sum := "d7379d43f97460d1cbd04975ffa1282f064bfee59d95fd50b3572b1a8206fbde", func := "chargepark/chargeparklaw27.PlanFewer", spec := "planFewer", unfollowed := true, recurses := true, apart := false, narrowed := true }
def PlanFewerUptoSaid : Prop := planFewerUptoRow.holds Try.pinned (OpenSpec.upto planFewerSpec)

/-- 'chargeparklaw27.PlanOneJob', WHERE WHAT IT READS IS OF BULK AT MOST 1048576: true; the input reads as it did. -/
def planOneJobUptoRow : OpenClaim := { program := "ytickndjlhokppaa", sum := "d7379d43f97460d1cbd04975ffa1282f064bfee59d95fd50b3572b1a8206fbde", func := "chargepark/chargeparklaw27.PlanOneJob", spec := "planOneJob", unfollowed := true, recurses := true, apart := false, narrowed := true }
def PlanOneJobUptoSaid : Prop := planOneJobUptoRow.holds Try.pinned (OpenSpec.upto planOneJobSpec)

/-- 'chargeparklaw27.PlanTurned', WHERE WHAT IT READS IS OF BULK AT MOST 1048576: true; the input reads as it did. -/
def planTurnedUptoRow : OpenClaim := { program := "ytickndjlhokppaa", sum := "d7379d43f97460d1cbd04975ffa1282f064bfee59d95fd50b3572b1a8206fbde", func := "chargepark/chargeparklaw27.PlanTurned", spec := "planTurned", unfollowed := true, recurses := true, apart := false, narrowed := true }
def PlanTurnedUptoSaid : Prop := planTurnedUptoRow.holds Try.pinned (OpenSpec.upto planTurnedSpec)

/-- 'chargeparklaw27.PlanJoining', WHERE WHAT IT READS IS OF BULK AT MOST 1048576: true; the input reads as it did. -/
def planJoiningUptoRow : OpenClaim := { program := "ytickndjlhokppaa", sum := "d7379d43f97460d1cbd04975ffa1282f064bfee59d95fd50b3572b1a8206fbde", func := "chargepark/chargeparklaw27.PlanJoining", spec := "planJoining", unfollowed := true, recurses := true, apart := false, narrowed := true }
def PlanJoiningUptoSaid : Prop := planJoiningUptoRow.holds Try.pinned (OpenSpec.upto planJoiningSpec)

end Rows
end Go.Proofs.Ytickndjlhokppaa
