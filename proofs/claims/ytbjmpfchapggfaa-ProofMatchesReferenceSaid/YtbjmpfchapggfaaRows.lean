/-
  No cell of these rows narrows 'for every input' (looked for: loops, veiled, ifaces, maps, wideKeys, modest, calm, conditions, laid).
  DERIVED. THE GIVEN ROWS OF THIS SEAT. 6 by the template 'for every input the law returns true; each argument reads behind the call as it read before'; 0 by the template 'total and deterministic' (their statements: YtbjmpfchapggfaaTotals.lean).
  GIVEN WITH THE SEED: the statements are not yours to turn. If you find one false, say at which input.
  Laid BY PROGRAM, IN A SANDBOX (cutbox-rows.mjs): the forced cells as the released guide's own fill.sh prints them over the translation 875d92b3a30c61b4… (all of the seat's roots in one cut). By AI agents, Wed Nov 11 2026. No macro, syntax, notation, axiom, sorry.
-/
import Derived.Test.YtbjmpfchapggfaaChecked
import GoSem.Claim
import GoSem.ClaimJoined
import GoSem.ClaimMapViews
import Derived.JoinedTies
import Derived.KernelRfl
namespace Go.Proofs.Ytbjmpfchapggfaa
/- THE CELL 'sum', in the pinned program and in every row, IS THE sha256 OF THE DUMP (.gsa) THAT YtbjmpfchapggfaaProg.lean LOADS. Nothing in Lean hashes anything: it is a label: what it is worth is what the hold of that sum in a sandbox is worth. -/
noncomputable def Try.pinned : Pinned := { name := "ytbjmpfchapggfaa", sum := "875d92b3a30c61b4bb9e0d073fcdb1e72d8a728d328c1a945484d0bb4be1ea12", checked := Try.checked }
namespace Rows
def none {H : Type} : Left H := { results := [], args := [] }

/-- 'chargeparklaw10.ProofMatchesReference': WHATEVER THE INPUT: true; the input reads as it did. -/
def proofMatchesReferenceSpec : ChangeSpec := { name := "proofMatchesReference", fn := fun _ => fun
  | [d1, d2, d3] => { results := [.lit (.bool true)], args := [d1, d2, d3] }
  | _ => none }
def proofMatchesReferenceRow : OpenClaim := { program := "ytbjmpfchapggfaa", sum := "875d92b3a30c61b4bb9e0d073fcdb1e72d8a728d328c1a945484d0bb4be1ea12", func := "chargepark/chargeparklaw10.ProofMatchesReference", spec := "proofMatchesReference", unfollowed := true, recurses := true, apart := false }
def ProofMatchesReferenceSaid : Prop := proofMatchesReferenceRow.holds Try.pinned (OpenSpec.ofChange proofMatchesReferenceSpec)

/-- ITS FALSE NEIGHBOUR: 'it returns false'. Refute it at one input. -/
def proofMatchesReferenceWrong : ChangeSpec := { name := "proofMatchesReference", fn := fun _ => fun
  | [d1, d2, d3] => { results := [.lit (.bool false)], args := [d1, d2, d3] }
  | _ => none }
def ProofMatchesReferenceWrongFalsely : Prop := proofMatchesReferenceRow.holds Try.pinned (OpenSpec.ofChange proofMatchesReferenceWrong)

/-- 'chargeparklaw10.ProofSound': WHATEVER THE INPUT: true; the input reads as it did. -/
def proofSoundSpec : ChangeSpec := { name := "proofSound", fn := fun _ => fun
  | [d1, d2, d3, d4] => { results := [.lit (.bool true)], args := [d1, d2, d3, d4] }
  | _ => none }
def proofSoundRow : OpenClaim := { program := "ytbjmpfchapggfaa", sum := "875d92b3a30c61b4bb9e0d073fcdb1e72d8a728d328c1a945484d0bb4be1ea12", func := "chargepark/chargeparklaw10.ProofSound", spec := "proofSound", unfollowed := true, recurses := true, apart := false }
def ProofSoundSaid : Prop := proofSoundRow.holds Try.pinned (OpenSpec.ofChange proofSoundSpec)

/-- ITS FALSE NEIGHBOUR: 'it returns false'. Refute it at one input. -/
def proofSoundWrong : ChangeSpec := { name := "proofSound", fn := fun _ => fun
  | [d1, d2, d3, d4] => { results := [.lit (.bool false)], args := [d1, d2, d3, d4] }
  | _ => none }
def ProofSoundWrongFalsely : Prop := proofSoundRow.holds Try.pinned (OpenSpec.ofChange proofSoundWrong)

/-- 'chargeparklaw10.ProofComplete': WHATEVER THE INPUT: true; the input reads as it did. -/
def proofCompleteSpec : ChangeSpec := { name := "proofComplete", fn := fun _ => fun
  | [d1, d2, d3] => { results := [.lit (.bool true)], args := [d1, d2, d3] }
  | _ => none }
def proofCompleteRow : OpenClaim := { program := "ytbjmpfchapggfaa", sum := "875d92b3a30c61b4bb9e0d073fcdb1e72d8a728d328c1a945484d0bb4be1ea12", func := "chargepark/chargeparklaw10.ProofComplete", spec := "proofComplete", unfollowed := true, recurses := true, apart := false }
def ProofCompleteSaid : Prop := proofCompleteRow.holds Try.pinned (OpenSpec.ofChange proofCompleteSpec)

/-- ITS FALSE NEIGHBOUR: 'it returns false'. Refute it at one input. -/
def proofCompleteWrong : ChangeSpec := { name := "proofComplete", fn := fun _ => fun
  | [d1, d2, d3] => { results := [.lit (.bool false)], args := [d1, d2, d3] }
  | _ => none }
def ProofCompleteWrongFalsely : Prop := proofCompleteRow.holds Try.pinned (OpenSpec.ofChange proofCompleteWrong)

/-- 'chargeparklaw10.ProofWitness': WHATEVER THE INPUT: true; the input reads as it did. -/
def proofWitnessSpec : ChangeSpec := { name := "proofWitness", fn := fun _ => fun
  | [d1, d2, d3, d4] => { results := [.lit (.bool true)], args := [d1, d2, d3, d4] }
  | _ => none }
def proofWitnessRow : OpenClaim := { program := "ytbjmpfchapggfaa", sum := "875d92b3a30c61b4bb9e0d073fcdb1e72d8a728d328c1a945484d0bb4be1ea12", func := "chargepark/chargeparklaw10.ProofWitness", spec := "proofWitness", unfollowed := true, recurses := true, apart := false }
def ProofWitnessSaid : Prop := proofWitnessRow.holds Try.pinned (OpenSpec.ofChange proofWitnessSpec)

/-- ITS FALSE NEIGHBOUR: 'it returns false'. Refute it at one input. -/
def proofWitnessWrong : ChangeSpec := { name := "proofWitness", fn := fun _ => fun
  | [d1, d2, d3, d4] => { results := [.lit (.bool false)], args := [d1, d2, d3, d4] }
  | _ => none }
def ProofWitnessWrongFalsely : Prop := proofWitnessRow.holds Try.pinned (OpenSpec.ofChange proofWitnessWrong)

/-- 'chargeparklaw10.ProofLeast': WHATEVER THE INPUT: true; the input reads as it did. -/
def proofLeastSpec : ChangeSpec := { name := "proofLeast", fn := fun _ => fun
  | [d1, d2, d3, d4, d5] => { results := [.lit (.bool true)], args := [d1, d2, d3, d4, d5] }
  | _ => none }
def proofLeastRow : OpenClaim := { program := "ytbjmpfchapggfaa", sum := "875d92b3a30c61b4bb9e0d073fcdb1e72d8a728d328c1a945484d0bb4be1ea12", func := "chargepark/chargeparklaw10.ProofLeast", spec := "proofLeast", unfollowed := true, recurses := true, apart := false }
def ProofLeastSaid : Prop := proofLeastRow.holds Try.pinned (OpenSpec.ofChange proofLeastSpec)

/-- ITS FALSE NEIGHBOUR: 'it returns false'. Refute it at one input. -/
def proofLeastWrong : ChangeSpec := { name := "proofLeast", fn := fun _ => fun
  | [d1, d2, d3, d4, d5] => { results := [.lit (.bool false)], args := [d1, d2, d3, d4, d5] }
  | _ => none }
def ProofLeastWrongFalsely : Prop := proofLeastRow.holds Try.pinned (OpenSpec.ofChange proofLeastWrong)

/-- 'chargeparklaw10.ProofLess': WHATEVER THE INPUT: true; the input reads as it did. -/
def proofLessSpec : ChangeSpec := { name := "proofLess", fn := fun _ => fun
  | [d1, d2, d3, d4, d5] => { results := [.lit (.bool true)], args := [d1, d2, d3, d4, d5] }
  | _ => none }
def proofLessRow : OpenClaim := { program := "ytbjmpfchapggfaa", sum := "875d92b3a30c61b4bb9e0d073fcdb1e72d8a728d328c1a945484d0bb4be1ea12", func := "chargepark/chargeparklaw10.ProofLess", spec := "proofLess", unfollowed := true, recurses := true, apart := false }
def ProofLessSaid : Prop := proofLessRow.holds Try.pinned (OpenSpec.ofChange proofLessSpec)

/-- ITS FALSE NEIGHBOUR: 'it returns false'. Refute it at one input. -/
def proofLessWrong : ChangeSpec := { name := "proofLess", fn := fun _ => fun
  | [d1, d2, d3, d4, d5] => { results := [.lit (.bool false)], args := [d1, d2, d3, d4, d5] }
  | _ => none }
def ProofLessWrongFalsely : Prop := proofLessRow.holds Try.pinned (OpenSpec.ofChange proofLessWrong)

/- THE SECOND FORM. 'bulk': how many values and letters a reading holds, each counted each time it is reached (what is shared counts as often as it is met; a slice's spare places count too). A statement '..UptoSaid' is the law's where the arguments, and the package variables that the reading takes, are together of bulk at most 1048576: NARROWER than '..Said'. Prove '..Said' where nothing that the law and all that it calls make is longer than what came in: it says more and counts as full. Else prove '..UptoSaid'. A law counts once. -/
mutual
def uptoBulk {H : Type} : DataW H → Nat
  | .lit (.string bytes) => bytes.length + 1
  | .lit _ => 1
  | .nil => 1
  | .ptr d => uptoBulk d + 1
  | .slice elems spare => uptoBulkAll elems + uptoBulkAll spare + 1
  | .agg parts => uptoBulkAll parts + 1
  | .iface _ d => uptoBulk d + 1
  | .map entries => uptoBulkEntries entries + 1
  | .held _ => 1
def uptoBulkAll {H : Type} : List (DataW H) → Nat
  | [] => 0
  | d :: r => uptoBulk d + uptoBulkAll r
def uptoBulkEntries {H : Type} : List (Lit × DataW H) → Nat
  | [] => 0
  | x :: r => uptoBulkEntry x + uptoBulkEntries r
def uptoBulkEntry {H : Type} : Lit × DataW H → Nat
  | (.string bytes, d) => bytes.length + uptoBulk d + 1
  | (_, d) => uptoBulk d + 1
 end
def uptoSmall : (H : Type) → List (DataW H) → Bool := fun _ ds => decide (uptoBulkAll ds ≤ 1048576)
def OpenSpec.upto (s : _root_.Go.ChangeSpec) : _root_.Go.OpenSpec := { _root_.Go.OpenSpec.ofChange s with cond := some uptoSmall }

/-- 'chargeparklaw10.ProofMatchesReference', WHERE WHAT IT READS IS OF BULK AT MOST 1048576: true; the input reads as it did. -/
def proofMatchesReferenceUptoRow : OpenClaim := { program := "ytbjmpfchapggfaa", sum := "875d92b3a30c61b4bb9e0d073fcdb1e72d8a728d328c1a945484d0bb4be1ea12", func := "chargepark/chargeparklaw10.ProofMatchesReference", spec := "proofMatchesReference", unfollowed := true, recurses := true, apart := false, narrowed := true }
def ProofMatchesReferenceUptoSaid : Prop := proofMatchesReferenceUptoRow.holds Try.pinned (OpenSpec.upto proofMatchesReferenceSpec)

/-- 'chargeparklaw10.ProofSound', WHERE WHAT IT READS IS OF BULK AT MOST 1048576: true; the input reads as it did. -/
def proofSoundUptoRow : OpenClaim := { program := "ytbjmpfchapggfaa", sum := "875d92b3a30c61b4bb9e0d073fcdb1e72d8a728d328c1a945484d0bb4be1ea12", func := "chargepark/chargeparklaw10.ProofSound", spec := "proofSound", unfollowed := true, recurses := true, apart := false, narrowed := true }
def ProofSoundUptoSaid : Prop := proofSoundUptoRow.holds Try.pinned (OpenSpec.upto proofSoundSpec)

/-- 'chargeparklaw10.ProofComplete', WHERE WHAT IT READS IS OF BULK AT MOST 1048576: true; the input reads as it did. -/
def proofCompleteUptoRow : OpenClaim := { program := "ytbjmpfchapggfaa", sum := "875d92b3a30c61b4bb9e0d073fcdb1e72d8a728d328c1a945484d0bb4be1ea12", func := "chargepark/chargeparklaw10.ProofComplete", spec := "proofComplete", unfollowed := true, recurses := true, apart := false, narrowed := true }
def ProofCompleteUptoSaid : Prop := proofCompleteUptoRow.holds Try.pinned (OpenSpec.upto proofCompleteSpec)

/-- 'chargeparklaw10.ProofWitness', WHERE WHAT IT READS IS OF BULK AT MOST 1048576: true; the input reads as it did. -/
def proofWitnessUptoRow : OpenClaim := { program := "ytbjmpfchapggfaa", sum := "875d92b3a30c61b4bb9e0d073fcdb1e72d8a728d328c1a945484d0bb4be1ea12", func := "chargepark/chargeparklaw10.ProofWitness", spec := "proofWitness", unfollowed := true, recurses := true, apart := false, narrowed := true }
def ProofWitnessUptoSaid : Prop := proofWitnessUptoRow.holds Try.pinned (OpenSpec.upto proofWitnessSpec)

/-- 'chargeparklaw10.ProofLeast', WHERE WHAT IT READS IS OF BULK AT MOST 1048576: true; the input reads as it did. -/
def proofLeastUptoRow : OpenClaim := { program := "ytbjmpfchapggfaa", sum := "875d92b3a30c61b4bb9e0d073fcdb1e72d8a728d328c1a945484d0bb4be1ea12", func := "chargepark/chargeparklaw10.ProofLeast", spec := "proofLeast", unfollowed := true, recurses := true, apart := false, narrowed := true }
def ProofLeastUptoSaid : Prop := proofLeastUptoRow.holds Try.pinned (OpenSpec.upto proofLeastSpec)

/-- 'chargeparklaw10.ProofLess', WHERE WHAT IT READS IS OF BULK AT MOST 1048576: true; the input reads as it did. -/
def proofLessUptoRow : OpenClaim := { program := "ytbjmpfchapggfaa", sum := "875d92b3a30c61b4bb9e0d073fcdb1e72d8a728d328c1a945484d0bb4be1ea12", func := "chargepark/chargeparklaw10.ProofLess", spec := "proofLess", unfollowed := true, recurses := true, apart := false, narrowed := true }
def ProofLessUptoSaid : Prop := proofLessUptoRow.holds Try.pinned (OpenSpec.upto proofLessSpec)

end Rows
end Go.Proofs.Ytbjmpfchapggfaa
