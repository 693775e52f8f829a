/-
  No cell of these rows narrows 'for every input' (looked for: loops, veiled, ifaces, maps, wideKeys, modest, calm, conditions, laid).
  DERIVED. THE GIVEN ROWS OF THIS SEAT. 9 by the template 'for every input the law returns true; each argument reads behind the call as it read before'; 0 by the template 'total and deterministic' (their statements: YtmmmgafnmpaohaaTotals.lean).
  GIVEN WITH THE SEED: the statements are not yours to turn. If you find one false, say at which input.
  Laid BY PROGRAM, IN A SANDBOX (cutbox-rows.mjs): the forced cells as the released guide's own fill.sh prints them over the translation 33a7fcc49dbaf70c… (all of the seat's roots in one cut). By AI agents, Wed Nov 11 2026. No macro, syntax, notation, axiom, sorry.
-/
import Derived.Test.YtmmmgafnmpaohaaChecked
import GoSem.Claim
import GoSem.ClaimJoined
import GoSem.ClaimMapViews
import Derived.JoinedTies
import Derived.KernelRfl
namespace Go.Proofs.Ytmmmgafnmpaohaa
/- THE CELL 'sum', in the pinned program and in every row, IS THE sha256 OF THE DUMP (.gsa) THAT YtmmmgafnmpaohaaProg.lean LOADS. Nothing in Lean hashes anything: it is a label: what it is worth is what the hold of that sum in a sandbox is worth. -/
noncomputable def Try.pinned : Pinned := { name := "ytmmmgafnmpaohaa", sum := "33a7fcc49dbaf70cffbccec85a5cef1b8760df05c1d626e0e7bd94106ce6d65e", checked := Try.checked }
namespace Rows
def none {H : Type} : Left H := { results := [], args := [] }

/-- 'chargeparklaw27.PlanMatchesReference': WHATEVER THE INPUT: true; the input reads as it did. -/
def planMatchesReferenceSpec : ChangeSpec := { name := "planMatchesReference", fn := fun _ => fun
  | [d1, d2, d3, d4] => { results := [.lit (.bool true)], args := [d1, d2, d3, d4] }
  | _ => none }
def planMatchesReferenceRow : OpenClaim := { program := "ytmmmgafnmpaohaa", sum := "33a7fcc49dbaf70cffbccec85a5cef1b8760df05c1d626e0e7bd94106ce6d65e", func := "chargepark/chargeparklaw27.PlanMatchesReference", spec := "planMatchesReference", unfollowed := true, recurses := true, apart := false }
def PlanMatchesReferenceSaid : Prop := planMatchesReferenceRow.holds Try.pinned (OpenSpec.ofChange planMatchesReferenceSpec)

/-- ITS FALSE NEIGHBOUR: 'it returns false'. Refute it at one input. -/
def planMatchesReferenceWrong : ChangeSpec := { name := "planMatchesReference", fn := fun _ => fun
  | [d1, d2, d3, d4] => { results := [.lit (.bool false)], args := [d1, d2, d3, d4] }
  | _ => none }
def PlanMatchesReferenceWrongFalsely : Prop := planMatchesReferenceRow.holds Try.pinned (OpenSpec.ofChange planMatchesReferenceWrong)

/-- 'chargeparklaw28.AdmitProof': WHATEVER THE INPUT: true; the input reads as it did. -/
def admitProofSpec : ChangeSpec := { name := "admitProof", fn := fun _ => fun
  | [d1, d2, d3] => { results := [.lit (.bool true)], args := [d1, d2, d3] }
  | _ => none }
def admitProofRow : OpenClaim := { program := "ytmmmgafnmpaohaa", sum := "33a7fcc49dbaf70cffbccec85a5cef1b8760df05c1d626e0e7bd94106ce6d65e", func := "chargepark/chargeparklaw28.AdmitProof", spec := "admitProof", unfollowed := true, recurses := true, apart := false }
def AdmitProofSaid : Prop := admitProofRow.holds Try.pinned (OpenSpec.ofChange admitProofSpec)

/-- ITS FALSE NEIGHBOUR: 'it returns false'. Refute it at one input. -/
def admitProofWrong : ChangeSpec := { name := "admitProof", fn := fun _ => fun
  | [d1, d2, d3] => { results := [.lit (.bool false)], args := [d1, d2, d3] }
  | _ => none }
def AdmitProofWrongFalsely : Prop := admitProofRow.holds Try.pinned (OpenSpec.ofChange admitProofWrong)

/-- 'chargeparklaw28.AdmitRoom': WHATEVER THE INPUT: true; the input reads as it did. -/
def admitRoomSpec : ChangeSpec := { name := "admitRoom", fn := fun _ => fun
  | [d1, d2, d3] => { results := [.lit (.bool true)], args := [d1, d2, d3] }
  | _ => none }
def admitRoomRow : OpenClaim := { program := "ytmmmgafnmpaohaa", sum := "33a7fcc49dbaf70cffbccec85a5cef1b8760df05c1d626e0e7bd94106ce6d65e", func := "chargepark/chargeparklaw28.AdmitRoom", spec := "admitRoom", unfollowed := true, recurses := true, apart := false }
def AdmitRoomSaid : Prop := admitRoomRow.holds Try.pinned (OpenSpec.ofChange admitRoomSpec)

/-- ITS FALSE NEIGHBOUR: 'it returns false'. Refute it at one input. -/
def admitRoomWrong : ChangeSpec := { name := "admitRoom", fn := fun _ => fun
  | [d1, d2, d3] => { results := [.lit (.bool false)], args := [d1, d2, d3] }
  | _ => none }
def AdmitRoomWrongFalsely : Prop := admitRoomRow.holds Try.pinned (OpenSpec.ofChange admitRoomWrong)

/-- 'chargeparklaw28.AdmitKeeps': WHATEVER THE INPUT: true; the input reads as it did. -/
def admitKeepsSpec : ChangeSpec := { name := "admitKeeps", fn := fun _ => fun
  | [d1, d2, d3] => { results := [.lit (.bool true)], args := [d1, d2, d3] }
  | _ => none }
def admitKeepsRow : OpenClaim := { program := "ytmmmgafnmpaohaa", sum := "33a7fcc49dbaf70cffbccec85a5cef1b8760df05c1d626e0e7bd94106ce6d65e", func := "chargepark/chargeparklaw28.AdmitKeeps", spec := "admitKeeps", unfollowed := true, recurses := true, apart := false }
def AdmitKeepsSaid : Prop := admitKeepsRow.holds Try.pinned (OpenSpec.ofChange admitKeepsSpec)

/-- ITS FALSE NEIGHBOUR: 'it returns false'. Refute it at one input. -/
def admitKeepsWrong : ChangeSpec := { name := "admitKeeps", fn := fun _ => fun
  | [d1, d2, d3] => { results := [.lit (.bool false)], args := [d1, d2, d3] }
  | _ => none }
def AdmitKeepsWrongFalsely : Prop := admitKeepsRow.holds Try.pinned (OpenSpec.ofChange admitKeepsWrong)

/-- 'chargeparklaw28.AdmitToTheEnd': WHATEVER THE INPUT: true; the input reads as it did. -/
def admitToTheEndSpec : ChangeSpec := { name := "admitToTheEnd", fn := fun _ => fun
  | [d1, d2] => { results := [.lit (.bool true)], args := [d1, d2] }
  | _ => none }
def admitToTheEndRow : OpenClaim := { program := "ytmmmgafnmpaohaa", sum := "33a7fcc49dbaf70cffbccec85a5cef1b8760df05c1d626e0e7bd94106ce6d65e", func := "chargepark/chargeparklaw28.AdmitToTheEnd", spec := "admitToTheEnd", unfollowed := true, recurses := true, apart := false }
def AdmitToTheEndSaid : Prop := admitToTheEndRow.holds Try.pinned (OpenSpec.ofChange admitToTheEndSpec)

/-- ITS FALSE NEIGHBOUR: 'it returns false'. Refute it at one input. -/
def admitToTheEndWrong : ChangeSpec := { name := "admitToTheEnd", fn := fun _ => fun
  | [d1, d2] => { results := [.lit (.bool false)], args := [d1, d2] }
  | _ => none }
def AdmitToTheEndWrongFalsely : Prop := admitToTheEndRow.holds Try.pinned (OpenSpec.ofChange admitToTheEndWrong)

/-- 'chargeparklaw28.AdmitOrder': WHATEVER THE INPUT: true; the input reads as it did. -/
def admitOrderSpec : ChangeSpec := { name := "admitOrder", fn := fun _ => fun
  | [d1, d2, d3, d4] => { results := [.lit (.bool true)], args := [d1, d2, d3, d4] }
  | _ => none }
def admitOrderRow : OpenClaim := { program := "ytmmmgafnmpaohaa", sum := "33a7fcc49dbaf70cffbccec85a5cef1b8760df05c1d626e0e7bd94106ce6d65e", func := "chargepark/chargeparklaw28.AdmitOrder", spec := "admitOrder", unfollowed := true, recurses := true, apart := false }
def AdmitOrderSaid : Prop := admitOrderRow.holds Try.pinned (OpenSpec.ofChange admitOrderSpec)

/-- ITS FALSE NEIGHBOUR: 'it returns false'. Refute it at one input. -/
def admitOrderWrong : ChangeSpec := { name := "admitOrder", fn := fun _ => fun
  | [d1, d2, d3, d4] => { results := [.lit (.bool false)], args := [d1, d2, d3, d4] }
  | _ => none }
def AdmitOrderWrongFalsely : Prop := admitOrderRow.holds Try.pinned (OpenSpec.ofChange admitOrderWrong)

/-- 'chargeparklaw28.AdmitModest': WHATEVER THE INPUT: true; the input reads as it did. -/
def admitModestSpec : ChangeSpec := { name := "admitModest", fn := fun _ => fun
  | [d1, d2, d3, d4, d5, d6, d7] => { results := [.lit (.bool true)], args := [d1, d2, d3, d4, d5, d6, d7] }
  | _ => none }
def admitModestRow : OpenClaim := { program := "ytmmmgafnmpaohaa", sum := "33a7fcc49dbaf70cffbccec85a5cef1b8760df05c1d626e0e7bd94106ce6d65e", func := "chargepark/chargeparklaw28.AdmitModest", spec := "admitModest", unfollowed := true, recurses := true, apart := false }
def AdmitModestSaid : Prop := admitModestRow.holds Try.pinned (OpenSpec.ofChange admitModestSpec)

/-- ITS FALSE NEIGHBOUR: 'it returns false'. Refute it at one input. -/
def admitModestWrong : ChangeSpec := { name := "admitModest", fn := fun _ => fun
  | [d1, d2, d3, d4, d5, d6, d7] => { results := [.lit (.bool false)], args := [d1, d2, d3, d4, d5, d6, d7] }
  | _ => none }
def AdmitModestWrongFalsely : Prop := admitModestRow.holds Try.pinned (OpenSpec.ofChange admitModestWrong)

/-- 'chargeparklaw28.AdmitCrowds': WHATEVER THE INPUT: true; the input reads as it did. -/
def admitCrowdsSpec : ChangeSpec := { name := "admitCrowds", fn := fun _ => fun
  | [d1, d2, d3, d4] => { results := [.lit (.bool true)], args := [d1, d2, d3, d4] }
  | _ => none }
def admitCrowdsRow : OpenClaim := { program := "ytmmmgafnmpaohaa", sum := "33a7fcc49dbaf70cffbccec85a5cef1b8760df05c1d626e0e7bd94106ce6d65e", func := "chargepark/chargeparklaw28.AdmitCrowds", spec := "admitCrowds", unfollowed := true, recurses := true, apart := false }
def AdmitCrowdsSaid : Prop := admitCrowdsRow.holds Try.pinned (OpenSpec.ofChange admitCrowdsSpec)

/-- ITS FALSE NEIGHBOUR: 'it returns false'. Refute it at one input. -/
def admitCrowdsWrong : ChangeSpec := { name := "admitCrowds", fn := fun _ => fun
  | [d1, d2, d3, d4] => { results := [.lit (.bool false)], args := [d1, d2, d3, d4] }
  | _ => none }
def AdmitCrowdsWrongFalsely : Prop := admitCrowdsRow.holds Try.pinned (OpenSpec.ofChange admitCrowdsWrong)

/-- 'chargeparklaw28.AdmitMatchesReference': WHATEVER THE INPUT: true; the input reads as it did. -/
def admitMatchesReferenceSpec : ChangeSpec := { name := "admitMatchesReference", fn := fun _ => fun
  | [d1, d2, d3, d4] => { results := [.lit (.bool true)], args := [d1, d2, d3, d4] }
  | _ => none }
def admitMatchesReferenceRow : OpenClaim := { program := "ytmmmgafnmpaohaa", sum := "33a7fcc49dbaf70cffbccec85a5cef1b8760df05c1d626e0e7bd94106ce6d65e", func := "chargepark/chargeparklaw28.AdmitMatchesReference", spec := "admitMatchesReference", unfollowed := true, recurses := true, apart := false }
def AdmitMatchesReferenceSaid : Prop := admitMatchesReferenceRow.holds Try.pinned (OpenSpec.ofChange admitMatchesReferenceSpec)

/-- ITS FALSE NEIGHBOUR: 'it returns false'. Refute it at one input. -/
def admitMatchesReferenceWrong : ChangeSpec := { name := "admitMatchesReference", fn := fun _ => fun
  | [d1, d2, d3, d4] => { results := [.lit (.bool false)], args := [d1, d2, d3, d4] }
  | _ => none }
def AdmitMatchesReferenceWrongFalsely : Prop := admitMatchesReferenceRow.holds Try.pinned (OpenSpec.ofChange admitMatchesReferenceWrong)

/- THE SECOND FORM. 'bulk': how many values and letters a reading holds, each counted each time it is reached (what is shared counts as often as it is met; a slice's spare places count too). A statement '..UptoSaid' is the law's where the arguments, and the package variables that the reading takes, are together of bulk at most 1048576: NARROWER than '..Said'. Prove '..Said' where nothing that the law and all that it calls make is longer than what came in: it says more and counts as full. Else prove '..UptoSaid'. A law counts once. -/
mutual
def uptoBulk {H : Type} : DataW H → Nat
  | .lit (.string bytes) => bytes.length + 1
  | .lit _ => 1
  | .nil => 1
  | .ptr d => uptoBulk d + 1
  | .slice elems spare => uptoBulkAll elems + uptoBulkAll spare + 1
  | .agg parts => uptoBulkAll parts + 1
  | .iface _ d => uptoBulk d + 1
  | .map entries => uptoBulkEntries entries + 1
  | .held _ => 1
def uptoBulkAll {H : Type} : List (DataW H) → Nat
  | [] => 0
  | d :: r => uptoBulk d + uptoBulkAll r
def uptoBulkEntries {H : Type} : List (Lit × DataW H) → Nat
  | [] => 0
  | x :: r => uptoBulkEntry x + uptoBulkEntries r
def uptoBulkEntry {H : Type} : Lit × DataW H → Nat
  | (.string bytes, d) => bytes.length + uptoBulk d + 1
  | (_, d) => uptoBulk d + 1
 end
def uptoSmall : (H : Type) → List (DataW H) → Bool := fun _ ds => decide (uptoBulkAll ds ≤ 1048576)
def OpenSpec.upto (s : _root_.Go.ChangeSpec) : _root_.Go.OpenSpec := { _root_.Go.OpenSpec.ofChange s with cond := some uptoSmall }

/-- 'chargeparklaw27.PlanMatchesReference', WHERE WHAT IT READS IS OF BULK AT MOST 1048576: true; the input reads as it did. -/
def planMatchesReferenceUptoRow : OpenClaim := { program := "ytmmmgafnmpaohaa", sum := "33a7fcc49dbaf70cffbccec85a5cef1b8760df05c1d626e0e7bd94106ce6d65e", func := "chargepark/chargeparklaw27.PlanMatchesReference", spec := "planMatchesReference", unfollowed := true, recurses := true, apart := false, narrowed := true }
def PlanMatchesReferenceUptoSaid : Prop := planMatchesReferenceUptoRow.holds Try.pinned (OpenSpec.upto planMatchesReferenceSpec)

/-- 'chargeparklaw28.AdmitProof', WHERE WHAT IT READS IS OF BULK AT MOST 1048576: true; the input reads as it did. -/
def admitProofUptoRow : OpenClaim := { program := "ytmmmgafnmpaohaa", sum := "33a7fcc49dbaf70cffbccec85a5cef1b8760df05c1d626e0e7bd94106ce6d65e", func := "chargepark/chargeparklaw28.AdmitProof", spec := "admitProof", unfollowed := true, recurses := true, apart := false, narrowed := true }
def AdmitProofUptoSaid : Prop := admitProofUptoRow.holds Try.pinned (OpenSpec.upto admitProofSpec)

/-- 'chargeparklaw28.AdmitRoom', WHERE WHAT IT READS IS OF BULK AT MOST 1048576: true; the input reads as it did. -/
def admitRoomUptoRow : OpenClaim := { program := "ytmmmgafnmpaohaa", sum := "33a7fcc49dbaf70cffbccec85a5cef1b8760df05c1d626e0e7bd94106ce6d65e", func := "chargepark/chargeparklaw28.AdmitRoom", spec := "admitRoom", unfollowed := true, recurses := true, apart := false, narrowed := true }
def AdmitRoomUptoSaid : Prop := admitRoomUptoRow.holds Try.pinned (OpenSpec.upto admitRoomSpec)

/-- 'chargeparklaw28.AdmitKeeps', WHERE WHAT IT READS IS OF BULK AT MOST 1048576: true; the input reads as it did. -/
def admitKeepsUptoRow : OpenClaim := { program := "ytmmmgafnmpaohaa", sum := "33a7fcc49dbaf70cffbccec85a5cef1b8760df05c1d626e0e7bd94106ce6d65e", func := "chargepark/chargeparklaw28.AdmitKeeps", spec := "admitKeeps", unfollowed := true, recurses := true, apart := false, narrowed := true }
def AdmitKeepsUptoSaid : Prop := admitKeepsUptoRow.holds Try.pinned (OpenSpec.upto admitKeepsSpec)

/-- 'chargeparklaw28.AdmitToTheEnd', WHERE WHAT IT READS IS OF BULK AT MOST 1048576: true; the input reads as it did. -/
def admitToTheEndUptoRow : OpenClaim := { program := "ytmmmgafnmpaohaa", sum := "33a7fcc49dbaf70cffbccec85a5cef1b8760df05c1d626e0e7bd94106ce6d65e", func := "chargepark/chargeparklaw28.AdmitToTheEnd", spec := "admitToTheEnd", unfollowed := true, recurses := true, apart := false, narrowed := true }
def AdmitToTheEndUptoSaid : Prop := admitToTheEndUptoRow.holds Try.pinned (OpenSpec.upto admitToTheEndSpec)

/-- 'chargeparklaw28.AdmitOrder', WHERE WHAT IT READS IS OF BULK AT MOST 1048576: true; the input reads as it did. -/
def admitOrderUptoRow : OpenClaim := { program := "ytmmmgafnmpaohaa", sum := "33a7fcc49dbaf70cffbccec85a5cef1b8760df05c1d626e0e7bd94106ce6d65e", func := "chargepark/chargeparklaw28.AdmitOrder", spec := "admitOrder", unfollowed := true, recurses := true, apart := false, narrowed := true }
def AdmitOrderUptoSaid : Prop := admitOrderUptoRow.holds Try.pinned (OpenSpec.upto admitOrderSpec)

/-- 'chargeparklaw28.AdmitModest', WHERE WHAT IT READS IS OF BULK AT MOST 1048576: true; the input reads as it did. -/
def admitModestUptoRow : OpenClaim := { program := "ytmmmgafnmpaohaa", sum := "33a7fcc49dbaf70cffbccec85a5cef1b8760df05c1d626e0e7bd94106ce6d65e", func := "chargepark/chargeparklaw28.AdmitModest", spec := "admitModest", unfollowed := true, recurses := true, apart := false, narrowed := true }
def AdmitModestUptoSaid : Prop := admitModestUptoRow.holds Try.pinned (OpenSpec.upto admitModestSpec)

/-- 'chargeparklaw28.AdmitCrowds', WHERE WHAT IT READS IS OF BULK AT MOST 1048576: true; the input reads as it did. -/
def admitCrowdsUptoRow : OpenClaim := { program := "ytmmmgafnmpaohaa", sum := "33a7fcc49dbaf70cffbccec85a5cef1b8760df05c1d626e0e7bd94106ce6d65e", func := "chargepark/chargeparklaw28.AdmitCrowds", spec := "admitCrowds", unfollowed := true, recurses := true, apart := false, narrowed := true }
def AdmitCrowdsUptoSaid : Prop := admitCrowdsUptoRow.holds Try.pinned (OpenSpec.upto admitCrowdsSpec)

/-- 'chargeparklaw28.AdmitMatchesReference', WHERE WHAT IT READS IS OF BULK AT MOST 1048576: true; the input reads as it did. -/
def admitMatchesReferenceUptoRow : OpenClaim := { program := "ytmmmgafnmpaohaa", sum := "33a7fcc49dbaf70cffbccec85a5cef1b8760df05c1d626e0e7bd94106ce6d65e", func := "chargepark/chargeparklaw28.AdmitMatchesReference", spec := "admitMatchesReference", unfollowed := true, recurses := true, apart := false, narrowed := true }
def AdmitMatchesReferenceUptoSaid : Prop := admitMatchesReferenceUptoRow.holds Try.pinned (OpenSpec.upto admitMatchesReferenceSpec)

end Rows
end Go.Proofs.Ytmmmgafnmpaohaa
