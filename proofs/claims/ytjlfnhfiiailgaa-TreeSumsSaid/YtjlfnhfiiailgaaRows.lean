/-
  No cell of these rows narrows 'for every input' (looked for: loops, veiled, ifaces, maps, wideKeys, modest, calm, conditions, laid).
  DERIVED. THE GIVEN ROWS OF THIS SEAT. 7 by the template 'for every input the law returns true; each argument reads behind the call as it read before'; 0 by the template 'total and deterministic' (their statements: YtjlfnhfiiailgaaTotals.lean).
  GIVEN WITH THE SEED: the statements are not yours to turn. If you find one false, say at which input.
  Laid BY PROGRAM, IN A SANDBOX (cutbox-rows.mjs): the forced cells as the released guide's own fill.sh prints them over the translation bec950739cca9e99… (all of the seat's roots in one cut). By AI agents, Wed Nov 11 2026. No macro, syntax, notation, axiom, sorry.
-/
import Derived.Test.YtjlfnhfiiailgaaChecked
import GoSem.Claim
import GoSem.ClaimJoined
import GoSem.ClaimMapViews
import Derived.JoinedTies
import Derived.KernelRfl
namespace Go.Proofs.Ytjlfnhfiiailgaa
/- THE CELL 'sum', in the pinned program and in every row, IS THE sha256 OF THE DUMP (.gsa) THAT YtjlfnhfiiailgaaProg.lean LOADS. Nothing in Lean hashes anything: it is a label: what it is worth is what the hold of that sum in a sandbox is worth. -/
noncomputable def Try.pinned : Pinned := { name := "ytjlfnhfiiailgaa", sum := "bec950739cca9e9901b3931eb3018cb06e4edd1af5fb31565d12eb027824c431", checked := Try.checked }
namespace Rows
def none {H : Type} : Left H := { results := [], args := [] }

/-- 'chargeparklaw08.TreeMatchesReference': WHATEVER THE INPUT: true; the input reads as it did. -/
def treeMatchesReferenceSpec : ChangeSpec := { name := "treeMatchesReference", fn := fun _ => fun
  | [d1, d2, d3, d4] => { results := [.lit (.bool true)], args := [d1, d2, d3, d4] }
  | _ => none }
def treeMatchesReferenceRow : OpenClaim := { program := "ytjlfnhfiiailgaa", sum := "bec950739cca9e9901b3931eb3018cb06e4edd1af5fb31565d12eb027824c431", func := "chargepark/chargeparklaw08.TreeMatchesReference", spec := "treeMatchesReference", unfollowed := true, recurses := true, apart := false }
def TreeMatchesReferenceSaid : Prop := treeMatchesReferenceRow.holds Try.pinned (OpenSpec.ofChange treeMatchesReferenceSpec)

/-- ITS FALSE NEIGHBOUR: 'it returns false'. Refute it at one input. -/
def treeMatchesReferenceWrong : ChangeSpec := { name := "treeMatchesReference", fn := fun _ => fun
  | [d1, d2, d3, d4] => { results := [.lit (.bool false)], args := [d1, d2, d3, d4] }
  | _ => none }
def TreeMatchesReferenceWrongFalsely : Prop := treeMatchesReferenceRow.holds Try.pinned (OpenSpec.ofChange treeMatchesReferenceWrong)

/-- 'chargeparklaw08.TreePaths': WHATEVER THE INPUT: true; the input reads as it did. -/
def treePathsSpec : ChangeSpec := { name := "treePaths", fn := fun _ => fun
  | [d1, d2] => { results := [.lit (.bool true)], args := [d1, d2] }
  | _ => none }
def treePathsRow : OpenClaim := { program := "ytjlfnhfiiailgaa", sum := "bec950739cca9e9901b3931eb3018cb06e4edd1af5fb31565d12eb027824c431", func := "chargepark/chargeparklaw08.TreePaths", spec := "treePaths", unfollowed := true, recurses := true, apart := false }
def TreePathsSaid : Prop := treePathsRow.holds Try.pinned (OpenSpec.ofChange treePathsSpec)

/-- ITS FALSE NEIGHBOUR: 'it returns false'. Refute it at one input. -/
def treePathsWrong : ChangeSpec := { name := "treePaths", fn := fun _ => fun
  | [d1, d2] => { results := [.lit (.bool false)], args := [d1, d2] }
  | _ => none }
def TreePathsWrongFalsely : Prop := treePathsRow.holds Try.pinned (OpenSpec.ofChange treePathsWrong)

/-- 'chargeparklaw08.TreeBelow': WHATEVER THE INPUT: true; the input reads as it did. -/
def treeBelowSpec : ChangeSpec := { name := "treeBelow", fn := fun _ => fun
  | [d] => { results := [.lit (.bool true)], args := [d] }
  | _ => none }
def treeBelowRow : OpenClaim := { program := "ytjlfnhfiiailgaa", sum := "bec950739cca9e9901b3931eb3018cb06e4edd1af5fb31565d12eb027824c431", func := "chargepark/chargeparklaw08.TreeBelow", spec := "treeBelow", unfollowed := true, recurses := true, apart := false }
def TreeBelowSaid : Prop := treeBelowRow.holds Try.pinned (OpenSpec.ofChange treeBelowSpec)

/-- ITS FALSE NEIGHBOUR: 'it returns false'. Refute it at one input. -/
def treeBelowWrong : ChangeSpec := { name := "treeBelow", fn := fun _ => fun
  | [d] => { results := [.lit (.bool false)], args := [d] }
  | _ => none }
def TreeBelowWrongFalsely : Prop := treeBelowRow.holds Try.pinned (OpenSpec.ofChange treeBelowWrong)

/-- 'chargeparklaw08.TreeSums': WHATEVER THE INPUT: true; the input reads as it did. -/
def treeSumsSpec : ChangeSpec := { name := "treeSums", fn := fun _ => fun
  | [d1, d2] => { results := [.lit (.bool true)], args := [d1, d2] }
  | _ => none }
def treeSumsRow : OpenClaim := { program := "ytjlfnhfiiailgaa", sum := "bec950739cca9e9901b3931eb3018cb06e4edd1af5fb31565d12eb027824c431", func := "chargepark/chargeparklaw08.TreeSums", spec := "treeSums", unfollowed := true, recurses := true, apart := false }
def TreeSumsSaid : Prop := treeSumsRow.holds Try.pinned (OpenSpec.ofChange treeSumsSpec)

/-- ITS FALSE NEIGHBOUR: 'it returns false'. Refute it at one input. -/
def treeSumsWrong : ChangeSpec := { name := "treeSums", fn := fun _ => fun
  | [d1, d2] => { results := [.lit (.bool false)], args := [d1, d2] }
  | _ => none }
def TreeSumsWrongFalsely : Prop := treeSumsRow.holds Try.pinned (OpenSpec.ofChange treeSumsWrong)

/-- 'chargeparklaw08.TreeAdds': WHATEVER THE INPUT: true; the input reads as it did. -/
def treeAddsSpec : ChangeSpec := { name := "treeAdds", fn := fun _ => fun
  | [d1, d2, d3] => { results := [.lit (.bool true)], args := [d1, d2, d3] }
  | _ => none }
def treeAddsRow : OpenClaim := { program := "ytjlfnhfiiailgaa", sum := "bec950739cca9e9901b3931eb3018cb06e4edd1af5fb31565d12eb027824c431", func := "chargepark/chargeparklaw08.TreeAdds", spec := "treeAdds", unfollowed := true, recurses := true, apart := false }
def TreeAddsSaid : Prop := treeAddsRow.holds Try.pinned (OpenSpec.ofChange treeAddsSpec)

/-- ITS FALSE NEIGHBOUR: 'it returns false'. Refute it at one input. -/
def treeAddsWrong : ChangeSpec := { name := "treeAdds", fn := fun _ => fun
  | [d1, d2, d3] => { results := [.lit (.bool false)], args := [d1, d2, d3] }
  | _ => none }
def TreeAddsWrongFalsely : Prop := treeAddsRow.holds Try.pinned (OpenSpec.ofChange treeAddsWrong)

/-- 'chargeparklaw08.TreeOne': WHATEVER THE INPUT: true; the input reads as it did. -/
def treeOneSpec : ChangeSpec := { name := "treeOne", fn := fun _ => fun
  | [d1, d2, d3, d4] => { results := [.lit (.bool true)], args := [d1, d2, d3, d4] }
  | _ => none }
def treeOneRow : OpenClaim := { program := "ytjlfnhfiiailgaa", sum := "bec950739cca9e9901b3931eb3018cb06e4edd1af5fb31565d12eb027824c431", func := "chargepark/chargeparklaw08.TreeOne", spec := "treeOne", unfollowed := true, recurses := true, apart := false }
def TreeOneSaid : Prop := treeOneRow.holds Try.pinned (OpenSpec.ofChange treeOneSpec)

/-- ITS FALSE NEIGHBOUR: 'it returns false'. Refute it at one input. -/
def treeOneWrong : ChangeSpec := { name := "treeOne", fn := fun _ => fun
  | [d1, d2, d3, d4] => { results := [.lit (.bool false)], args := [d1, d2, d3, d4] }
  | _ => none }
def TreeOneWrongFalsely : Prop := treeOneRow.holds Try.pinned (OpenSpec.ofChange treeOneWrong)

/-- 'chargeparklaw08.TreeFeeder': WHATEVER THE INPUT: true; the input reads as it did. -/
def treeFeederSpec : ChangeSpec := { name := "treeFeeder", fn := fun _ => fun
  | [d1, d2] => { results := [.lit (.bool true)], args := [d1, d2] }
  | _ => none }
def treeFeederRow : OpenClaim := { program := "ytjlfnhfiiailgaa", sum := "bec950739cca9e9901b3931eb3018cb06e4edd1af5fb31565d12eb027824c431", func := "chargepark/chargeparklaw08.TreeFeeder", spec := "treeFeeder", unfollowed := true, recurses := true, apart := false }
def TreeFeederSaid : Prop := treeFeederRow.holds Try.pinned (OpenSpec.ofChange treeFeederSpec)

/-- ITS FALSE NEIGHBOUR: 'it returns false'. Refute it at one input. -/
def treeFeederWrong : ChangeSpec := { name := "treeFeeder", fn := fun _ => fun
  | [d1, d2] => { results := [.lit (.bool false)], args := [d1, d2] }
  | _ => none }
def TreeFeederWrongFalsely : Prop := treeFeederRow.holds Try.pinned (OpenSpec.ofChange treeFeederWrong)

/- THE SECOND FORM. 'bulk': how many values and letters a reading holds, each counted each time it is reached (what is shared counts as often as it is met; a slice's spare places count too). A statement '..UptoSaid' is the law's where the arguments, and the package variables that the reading takes, are together of bulk at most 1048576: NARROWER than '..Said'. Prove '..Said' where nothing that the law and all that it calls make is longer than what came in: it says more and counts as full. Else prove '..UptoSaid'. A law counts once. -/
mutual
def uptoBulk {H : Type} : DataW H → Nat
  | .lit (.string bytes) => bytes.length + 1
  | .lit _ => 1
  | .nil => 1
  | .ptr d => uptoBulk d + 1
  | .slice elems spare => uptoBulkAll elems + uptoBulkAll spare + 1
  | .agg parts => uptoBulkAll parts + 1
  | .iface _ d => uptoBulk d + 1
  | .map entries => uptoBulkEntries entries + 1
  | .held _ => 1
def uptoBulkAll {H : Type} : List (DataW H) → Nat
  | [] => 0
  | d :: r => uptoBulk d + uptoBulkAll r
def uptoBulkEntries {H : Type} : List (Lit × DataW H) → Nat
  | [] => 0
  | x :: r => uptoBulkEntry x + uptoBulkEntries r
def uptoBulkEntry {H : Type} : Lit × DataW H → Nat
  | (.string bytes, d) => bytes.length + uptoBulk d + 1
  | (_, d) => uptoBulk d + 1
 end
def uptoSmall : (H : Type) → List (DataW H) → Bool := fun _ ds => decide (uptoBulkAll ds ≤ 1048576)
def OpenSpec.upto (s : _root_.Go.ChangeSpec) : _root_.Go.OpenSpec := { _root_.Go.OpenSpec.ofChange s with cond := some uptoSmall }

/-- 'chargeparklaw08.TreeMatchesReference', WHERE WHAT IT READS IS OF BULK AT MOST 1048576: true; the input reads as it did. -/
def treeMatchesReferenceUptoRow : OpenClaim := { program := "ytjlfnhfiiailgaa", sum := "bec950739cca9e9901b3931eb3018cb06e4edd1af5fb31565d12eb027824c431", func := "chargepark/chargeparklaw08.TreeMatchesReference", spec := "treeMatchesReference", unfollowed := true, recurses := true, apart := false, narrowed := true }
def TreeMatchesReferenceUptoSaid : Prop := treeMatchesReferenceUptoRow.holds Try.pinned (OpenSpec.upto treeMatchesReferenceSpec)

/-- 'chargeparklaw08.TreePaths', WHERE WHAT IT READS IS OF BULK AT MOST 1048576: true; the input reads as it did. -/
def treePathsUptoRow : OpenClaim := { program := "ytjlfnhfiiailgaa", sum := "bec950739cca9e9901b3931eb3018cb06e4edd1af5fb31565d12eb027824c431", func := "chargepark/chargeparklaw08.TreePaths", spec := "treePaths", unfollowed := true, recurses := true, apart := false, narrowed := true }
def TreePathsUptoSaid : Prop := treePathsUptoRow.holds Try.pinned (OpenSpec.upto treePathsSpec)

/-- 'chargeparklaw08.TreeBelow', WHERE WHAT IT READS IS OF BULK AT MOST 1048576: true; the input reads as it did. -/
def treeBelowUptoRow : OpenClaim := { program := "ytjlfnhfiiailgaa", sum := "bec950739cca9e9901b3931eb3018cb06e4edd1af5fb31565d12eb027824c431", func := "chargepark/chargeparklaw08.TreeBelow", spec := "treeBelow", unfollowed := true, recurses := true, apart := false, narrowed := true }
def TreeBelowUptoSaid : Prop := treeBelowUptoRow.holds Try.pinned (OpenSpec.upto treeBelowSpec)

/-- 'chargeparklaw08.TreeSums', WHERE WHAT IT READS IS OF BULK AT MOST 1048576: true; the input reads as it did. -/
def treeSumsUptoRow : OpenClaim := { program := "ytjlfnhfiiailgaa", sum := "bec950739cca9e9901b3931eb3018cb06e4edd1af5fb31565d12eb027824c431", func := "chargepark/chargeparklaw08.TreeSums", spec := "treeSums", unfollowed := true, recurses := true, apart := false, narrowed := true }
def TreeSumsUptoSaid : Prop := treeSumsUptoRow.holds Try.pinned (OpenSpec.upto treeSumsSpec)

/-- 'chargeparklaw08.TreeAdds', WHERE WHAT IT READS IS OF BULK AT MOST 1048576: true; the input reads as it did. -/
def treeAddsUptoRow : OpenClaim := { program := "ytjlfnhfiiailgaa", sum := "bec950739cca9e9901b3931eb3018cb06e4edd1af5fb31565d12eb027824c431", func := "chargepark/chargeparklaw08.TreeAdds", spec := "treeAdds", unfollowed := true, recurses := true, apart := false, narrowed := true }
def TreeAddsUptoSaid : Prop := treeAddsUptoRow.holds Try.pinned (OpenSpec.upto treeAddsSpec)

/-- 'chargeparklaw08.TreeOne', WHERE WHAT IT READS IS OF BULK AT MOST 1048576: true; the input reads as it did. -/
def treeOneUptoRow : OpenClaim := { program := "ytjlfnhfiiailgaa", sum := "bec950739cca9e9901b3931eb3018cb06e4edd1af5fb31565d12eb027824c431", func := "chargepark/chargeparklaw08.TreeOne", spec := "treeOne", unfollowed := true, recurses := true, apart := false, narrowed := true }
def TreeOneUptoSaid : Prop := treeOneUptoRow.holds Try.pinned (OpenSpec.upto treeOneSpec)

/-- 'chargeparklaw08.TreeFeeder', WHERE WHAT IT READS IS OF BULK AT MOST 1048576: true; the input reads as it did. -/
def treeFeederUptoRow : OpenClaim := { program := "ytjlfnhfiiailgaa", sum := "bec950739cca9e9901b3931eb3018cb06e4edd1af5fb31565d12eb027824c431", func := "chargepark/chargeparklaw08.TreeFeeder", spec := "treeFeeder", unfollowed := true, recurses := true, apart := false, narrowed := true }
def TreeFeederUptoSaid : Prop := treeFeederUptoRow.holds Try.pinned (OpenSpec.upto treeFeederSpec)

end Rows
end Go.Proofs.Ytjlfnhfiiailgaa
