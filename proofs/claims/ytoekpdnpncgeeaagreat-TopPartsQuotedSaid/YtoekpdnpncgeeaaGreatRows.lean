/-
  No cell of these rows narrows 'for every input' (looked for: loops, veiled, ifaces, maps, wideKeys, modest, calm, conditions, laid).
  DERIVED. THE GIVEN ROWS OF THIS SEAT. 3 by the template 'for every input the law returns true; each argument reads behind the call as it read before'; 0 by the template 'total and deterministic' (their statements: YtoekpdnpncgeeaaGreatTotals.lean).
  GIVEN WITH THE SEED: the statements are not yours to turn. If you find one false, say at which input.
  Laid BY PROGRAM, IN A SANDBOX (cutbox-rows.mjs): the forced cells as the released guide's own fill.sh prints them over the translation 0c3f86470a764d22… (all of the seat's roots in one cut). By AI agents, Wed Nov 11 2026. No macro, syntax, notation, axiom, sorry.
-/
import Derived.Test.YtoekpdnpncgeeaaGreatChecked
import GoSem.Claim
import GoSem.ClaimJoined
import GoSem.ClaimMapViews
import Derived.JoinedTies
import Derived.KernelRfl
namespace Go.Proofs.YtoekpdnpncgeeaaGreat
/- THE CELL 'sum', in the pinned program and in every row, IS THE sha256 OF THE DUMP (.gsa) THAT YtoekpdnpncgeeaaGreatProg.lean LOADS. Nothing in Lean hashes anything: it is a label: what it is worth is what the hold of that sum in a sandbox is worth. -/
noncomputable def Tryz.pinned : Pinned := { name := "ytoekpdnpncgeeaagreat", sum := "0c3f86470a764d22bfee2a3c3dddd8f255a247c6f4c6be5164971eb6efe5478a", checked := Tryz.checked }
namespace Rows
def none {H : Type} : Left H := { results := [], args := [] }

/-- 'chargeparktop.TopClockShift': WHATEVER THE INPUT: true; the input reads as it did. -/
def topClockShiftSpec : ChangeSpec := { name := "topClockShift", fn := fun _ => fun
  | [d1, d2, d3, d4] => { results := [.lit (.bool true)], args := [d1, d2, d3, d4] }
  | _ => none }
def topClockShiftRow : OpenClaim := { program := "ytoekpdnpncgeeaagreat", sum := "0c3f86470a764d22bfee2a3c3dddd8f255a247c6f4c6be5164971eb6efe5478a", func := "chargepark/chargeparktop.TopClockShift", spec := "topClockShift", unfollowed := true, recurses := true, apart := false }
def TopClockShiftSaid : Prop := topClockShiftRow.holds Tryz.pinned (OpenSpec.ofChange topClockShiftSpec)

/-- ITS FALSE NEIGHBOUR: 'it returns false'. Refute it at one input. -/
def topClockShiftWrong : ChangeSpec := { name := "topClockShift", fn := fun _ => fun
  | [d1, d2, d3, d4] => { results := [.lit (.bool false)], args := [d1, d2, d3, d4] }
  | _ => none }
def TopClockShiftWrongFalsely : Prop := topClockShiftRow.holds Tryz.pinned (OpenSpec.ofChange topClockShiftWrong)

/-- 'chargeparktop.TopCapCuts': WHATEVER THE INPUT: true; the input reads as it did. -/
def topCapCutsSpec : ChangeSpec := { name := "topCapCuts", fn := fun _ => fun
  | [d1, d2, d3, d4] => { results := [.lit (.bool true)], args := [d1, d2, d3, d4] }
  | _ => none }
def topCapCutsRow : OpenClaim := { program := "ytoekpdnpncgeeaagreat", sum := "0c3f86470a764d22bfee2a3c3dddd8f255a247c6f4c6be5164971eb6efe5478a", func := "chargepark/chargeparktop.TopCapCuts", spec := "topCapCuts", unfollowed := true, recurses := true, apart := false }
def TopCapCutsSaid : Prop := topCapCutsRow.holds Tryz.pinned (OpenSpec.ofChange topCapCutsSpec)

/-- ITS FALSE NEIGHBOUR: 'it returns false'. Refute it at one input. -/
def topCapCutsWrong : ChangeSpec := { name := "topCapCuts", fn := fun _ => fun
  | [d1, d2, d3, d4] => { results := [.lit (.bool false)], args := [d1, d2, d3, d4] }
  | _ => none }
def TopCapCutsWrongFalsely : Prop := topCapCutsRow.holds Tryz.pinned (OpenSpec.ofChange topCapCutsWrong)

/-- 'chargeparktop.TopPartsQuoted': WHATEVER THE INPUT: true; the input reads as it did. -/
def topPartsQuotedSpec : ChangeSpec := { name := "topPartsQuoted", fn := fun _ => fun
  | [d1, d2, d3, d4] => { results := [.lit (.bool true)], args := [d1, d2, d3, d4] }
  | _ => none }
def topPartsQuotedRow : OpenClaim := { program := "ytoekpdnpncgeeaagreat", sum := "0c3f86470a764d22bfee2a3c3dddd8f255a247c6f4c6be5164971eb6efe5478a", func := "chargepark/chargeparktop.TopPartsQuoted", spec := "topPartsQuoted", unfollowed := true, recurses := true, apart := false }
def TopPartsQuotedSaid : Prop := topPartsQuotedRow.holds Tryz.pinned (OpenSpec.ofChange topPartsQuotedSpec)

/-- ITS FALSE NEIGHBOUR: 'it returns false'. Refute it at one input. -/
def topPartsQuotedWrong : ChangeSpec := { name := "topPartsQuoted", fn := fun _ => fun
  | [d1, d2, d3, d4] => { results := [.lit (.bool false)], args := [d1, d2, d3, d4] }
  | _ => none }
def TopPartsQuotedWrongFalsely : Prop := topPartsQuotedRow.holds Tryz.pinned (OpenSpec.ofChange topPartsQuotedWrong)

/- THE SECOND FORM. 'bulk': how many values and letters a reading holds, each counted each time it is reached (what is shared counts as often as it is met; a slice's spare places count too). A statement '..UptoSaid' is the law's where the arguments, and the package variables that the reading takes, are together of bulk at most 1048576: NARROWER than '..Said'. Prove '..Said' where nothing that the law and all that it calls make is longer than what came in: it says more and counts as full. Else prove '..UptoSaid'. A law counts once. -/
mutual
def uptoBulk {H : Type} : DataW H → Nat
  | .lit (.string bytes) => bytes.length + 1
  | .lit _ => 1
  | .nil => 1
  | .ptr d => uptoBulk d + 1
  | .slice elems spare => uptoBulkAll elems + uptoBulkAll spare + 1
  | .agg parts => uptoBulkAll parts + 1
  | .iface _ d => uptoBulk d + 1
  | .map entries => uptoBulkEntries entries + 1
  | .held _ => 1
def uptoBulkAll {H : Type} : List (DataW H) → Nat
  | [] => 0
  | d :: r => uptoBulk d + uptoBulkAll r
def uptoBulkEntries {H : Type} : List (Lit × DataW H) → Nat
  | [] => 0
  | x :: r => uptoBulkEntry x + uptoBulkEntries r
def uptoBulkEntry {H : Type} : Lit × DataW H → Nat
  | (.string bytes, d) => bytes.length + uptoBulk d + 1
  | (_, d) => uptoBulk d + 1
 end
def uptoSmall : (H : Type) → List (DataW H) → Bool := fun _ ds => decide (uptoBulkAll ds ≤ 1048576)
def OpenSpec.upto (s : _root_.Go.ChangeSpec) : _root_.Go.OpenSpec := { _root_.Go.OpenSpec.ofChange s with cond := some uptoSmall }

/-- 'chargeparktop.TopClockShift', WHERE WHAT IT READS IS OF BULK AT MOST 1048576: true; the input reads as it did. -/
def topClockShiftUptoRow : OpenClaim := { program := "ytoekpdnpncgeeaagreat", sum := "0c3f86470a764d22bfee2a3c3dddd8f255a247c6f4c6be5164971eb6efe5478a", func := "chargepark/chargeparktop.TopClockShift", spec := "topClockShift", unfollowed := true, recurses := true, apart := false, narrowed := true }
def TopClockShiftUptoSaid : Prop := topClockShiftUptoRow.holds Tryz.pinned (OpenSpec.upto topClockShiftSpec)

/-- 'chargeparktop.TopCapCuts', WHERE WHAT IT READS IS OF BULK AT MOST 1048576: true; the input reads as it did. -/
def topCapCutsUptoRow : OpenClaim := { program := "ytoekpdnpncgeeaagreat", sum := "0c3f86470a764d22bfee2a3c3dddd8f255a247c6f4c6be5164971eb6efe5478a", func := "chargepark/chargeparktop.TopCapCuts", spec := "topCapCuts", unfollowed := true, recurses := true, apart := false, narrowed := true }
def TopCapCutsUptoSaid : Prop := topCapCutsUptoRow.holds Tryz.pinned (OpenSpec.upto topCapCutsSpec)

/-- 'chargeparktop.TopPartsQuoted', WHERE WHAT IT READS IS OF BULK AT MOST 1048576: true; the input reads as it did. -/
def topPartsQuotedUptoRow : OpenClaim := { program := "ytoekpdnpncgeeaagreat", sum := "0c3f86470a764d22bfee2a3c3dddd8f255a247c6f4c6be5164971eb6efe5478a", func := "chargepark/chargeparktop.TopPartsQuoted", spec := "topPartsQuoted", unfollowed := true, recurses := true, apart := false, narrowed := true }
def TopPartsQuotedUptoSaid : Prop := topPartsQuotedUptoRow.holds Tryz.pinned (OpenSpec.upto topPartsQuotedSpec)

end Rows
end Go.Proofs.YtoekpdnpncgeeaaGreat
