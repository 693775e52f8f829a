/-
  No cell of these rows narrows 'for every input' (looked for: loops, veiled, ifaces, maps, wideKeys, modest, calm, conditions, laid).
  DERIVED. THE GIVEN ROWS OF THIS SEAT. 15 by the template 'for every input the law returns true; each argument reads behind the call as it read before'; 0 by the template 'total and deterministic' (their statements: YtgfcnkfmgpakkaaTotals.lean).
  GIVEN WITH THE SEED: the statements are not yours to turn. If you find one false, say at which input.
  Laid BY PROGRAM, IN A SANDBOX (cutbox-rows.mjs): the forced cells as the released guide's own fill.sh prints them over the translation 7a6a3fdf20d21407… (all of the seat's roots in one cut). By AI agents, Wed Nov 11 2026. No macro, syntax, notation, axiom, sorry.
-/
import Derived.Test.YtgfcnkfmgpakkaaChecked
import GoSem.Claim
import GoSem.ClaimJoined
import GoSem.ClaimMapViews
import Derived.JoinedTies
import Derived.KernelRfl
namespace Go.Proofs.Ytgfcnkfmgpakkaa
/- THE CELL 'sum', in the pinned program and in every row, IS THE sha256 OF THE DUMP (.gsa) THAT YtgfcnkfmgpakkaaProg.lean LOADS. Nothing in Lean hashes anything: it is a label: what it is worth is what the hold of that sum in a sandbox is worth. -/
noncomputable def Try.pinned : Pinned := { name := "ytgfcnkfmgpakkaa", sum := "7a6a3fdf20d21407cb1ea9bb1d0678b28e60d870c1d3349c1564618a6aff3af2", checked := Try.checked }
namespace Rows
def none {H : Type} : Left H := { results := [], args := [] }

/-- 'chargeparklaw28.AdmitProof': WHATEVER THE INPUT: true; the input reads as it did. -/
def admitProofSpec : ChangeSpec := { name := "admitProof", fn := fun _ => fun
  | [d1, d2, d3] => { results := [.lit (.bool true)], args := [d1, d2, d3] }
  | _ => none }
def admitProofRow : OpenClaim := { program := "ytgfcnkfmgpakkaa", sum := "7a6a3fdf20d21407cb1ea9bb1d0678b28e60d870c1d3349c1564618a6aff3af2", func := "chargepark/chargeparklaw28.AdmitProof", spec := "admitProof", unfollowed := true, recurses := true, apart := false }
def AdmitProofSaid : Prop := admitProofRow.holds Try.pinned (OpenSpec.ofChange admitProofSpec)

/-- ITS FALSE NEIGHBOUR: 'it returns false'. Refute it at one input. -/
def admitProofWrong : ChangeSpec := { name := "admitProof", fn := fun _ => fun
  | [d1, d2, d3] => { results := [.lit (.bool false)], args := [d1, d2, d3] }
  | _ => none }
def AdmitProofWrongFalsely : Prop := admitProofRow.holds Try.pinned (OpenSpec.ofChange admitProofWrong)

/-- 'chargeparklaw28.AdmitRoom': WHATEVER THE INPUT: true; the input reads as it did. -/
def admitRoomSpec : ChangeSpec := { name := "admitRoom", fn := fun _ => fun
  | [d1, d2, d3] => { results := [.lit (.bool true)], args := [d1, d2, d3] }
  | _ => none }
def admitRoomRow : OpenClaim := { program := "ytgfcnkfmgpakkaa", sum := "7a6a3fdf20d21407cb1ea9bb1d0678b28e60d870c1d3349c1564618a6aff3af2", func := "chargepark/chargeparklaw28.AdmitRoom", spec := "admitRoom", unfollowed := true, recurses := true, apart := false }
def AdmitRoomSaid : Prop := admitRoomRow.holds Try.pinned (OpenSpec.ofChange admitRoomSpec)

/-- ITS FALSE NEIGHBOUR: 'it returns false'. Refute it at one input. -/
def admitRoomWrong : ChangeSpec := { name := "admitRoom", fn := fun _ => fun
  | [d1, d2, d3] => { results := [.lit (.bool false)], args := [d1, d2, d3] }
  | _ => none }
def AdmitRoomWrongFalsely : Prop := admitRoomRow.holds Try.pinned (OpenSpec.ofChange admitRoomWrong)

/-- 'chargeparklaw28.AdmitKeeps': WHATEVER THE INPUT: true; the input reads as it did. -/
def admitKeepsSpec : ChangeSpec := { name := "admitKeeps", fn := fun _ => fun
  | [d1, d2, d3] => { results := [.lit (.bool true)], args := [d1, d2, d3] }
  | _ => none }
def admitKeepsRow : OpenClaim := { program := "ytgfcnkfmgpakkaa", sum := "7a6a3fdf20d21407cb1ea9bb1d0678b28e60d870c1d3349c1564618a6aff3af2", func := "chargepark/chargeparklaw28.AdmitKeeps", spec := "admitKeeps", unfollowed := true, recurses := true, apart := false }
def AdmitKeepsSaid : Prop := admitKeepsRow.holds Try.pinned (OpenSpec.ofChange admitKeepsSpec)

/-- ITS FALSE NEIGHBOUR: 'it returns false'. Refute it at one input. -/
def admitKeepsWrong : ChangeSpec := { name := "admitKeeps", fn := fun _ => fun
  | [d1, d2, d3] => { results := [.lit (.bool false)], args := [d1, d2, d3] }
  | _ => none }
def AdmitKeepsWrongFalsely : Prop := admitKeepsRow.holds Try.pinned (OpenSpec.ofChange admitKeepsWrong)

/-- 'chargeparklaw28.AdmitToTheEnd': WHATEVER THE INPUT: true; the input reads as it did. -/
def admitToTheEndSpec : ChangeSpec := { name := "admitToTheEnd", fn := fun _ => fun
  | [d1, d2] => { results := [.lit (.bool true)], args := [d1, d2] }
  | _ => none }
def admitToTheEndRow : OpenClaim := { program := "ytgfcnkfmgpakkaa", sum := "7a6a3fdf20d21407cb1ea9bb1d0678b28e60d870c1d3349c1564618a6aff3af2", func := "chargepark/chargeparklaw28.AdmitToTheEnd", spec := "admitToTheEnd", unfollowed := true, recurses := true, apart := false }
def AdmitToTheEndSaid : Prop := admitToTheEndRow.holds Try.pinned (OpenSpec.ofChange admitToTheEndSpec)

/-- ITS FALSE NEIGHBOUR: 'it returns false'. Refute it at one input. -/
def admitToTheEndWrong : ChangeSpec := { name := "admitToTheEnd", fn := fun _ => fun
  | [d1, d2] => { results := [.lit (.bool false)], args := [d1, d2] }
  | _ => none }
def AdmitToTheEndWrongFalsely : Prop := admitToTheEndRow.holds Try.pinned (OpenSpec.ofChange admitToTheEndWrong)

/-- 'chargeparklaw28.AdmitOrder': WHATEVER THE INPUT: true; the input reads as it did. -/
def admitOrderSpec : ChangeSpec := { name := "admitOrder", fn := fun _ => fun
  | [d1, d2, d3, d4] => { results := [.lit (.bool true)], args := [d1, d2, d3, d4] }
  | _ => none }
def admitOrderRow : OpenClaim := { program := "ytgfcnkfmgpakkaa", sum := "7a6a3fdf20d21407cb1ea9bb1d0678b28e60d870c1d3349c1564618a6aff3af2", func := "chargepark/chargeparklaw28.AdmitOrder", spec := "admitOrder", unfollowed := true, recurses := true, apart := false }
def AdmitOrderSaid : Prop := admitOrderRow.holds Try.pinned (OpenSpec.ofChange admitOrderSpec)

/-- ITS FALSE NEIGHBOUR: 'it returns false'. Refute it at one input. -/
def admitOrderWrong : ChangeSpec := { name := "admitOrder", fn := fun _ => fun
  | [d1, d2, d3, d4] => { results := [.lit (.bool false)], args := [d1, d2, d3, d4] }
  | _ => none }
def AdmitOrderWrongFalsely : Prop := admitOrderRow.holds Try.pinned (OpenSpec.ofChange admitOrderWrong)

/-- 'chargeparklaw28.AdmitModest': WHATEVER THE INPUT: true; the input reads as it did. -/
def admitModestSpec : ChangeSpec := { name := "admitModest", fn := fun _ => fun
  | [d1, d2, d3, d4, d5, d6, d7] => { results := [.lit (.bool true)], args := [d1, d2, d3, d4, d5, d6, d7] }
  | _ => none }
def admitModestRow : OpenClaim := { program := "ytgfcnkfmgpakkaa", sum := "7a6a3fdf20d21407cb1ea9bb1d0678b28e60d870c1d3349c1564618a6aff3af2", func := "chargepark/chargeparklaw28.AdmitModest", spec := "admitModest", unfollowed := true, recurses := true, apart := false }
def AdmitModestSaid : Prop := admitModestRow.holds Try.pinned (OpenSpec.ofChange admitModestSpec)

/-- ITS FALSE NEIGHBOUR: 'it returns false'. Refute it at one input. -/
def admitModestWrong : ChangeSpec := { name := "admitModest", fn := fun _ => fun
  | [d1, d2, d3, d4, d5, d6, d7] => { results := [.lit (.bool false)], args := [d1, d2, d3, d4, d5, d6, d7] }
  | _ => none }
def AdmitModestWrongFalsely : Prop := admitModestRow.holds Try.pinned (OpenSpec.ofChange admitModestWrong)

/-- 'chargeparklaw28.AdmitCrowds': WHATEVER THE INPUT: true; the input reads as it did. -/
def admitCrowdsSpec : ChangeSpec := { name := "admitCrowds", fn := fun _ => fun
  | [d1, d2, d3, d4] => { results := [.lit (.bool true)], args := [d1, d2, d3, d4] }
  | _ => none }
def admitCrowdsRow : OpenClaim := { program := "ytgfcnkfmgpakkaa", sum := "7a6a3fdf20d21407cb1ea9bb1d0678b28e60d870c1d3349c1564618a6aff3af2", func := "chargepark/chargeparklaw28.AdmitCrowds", spec := "admitCrowds", unfollowed := true, recurses := true, apart := false }
def AdmitCrowdsSaid : Prop := admitCrowdsRow.holds Try.pinned (OpenSpec.ofChange admitCrowdsSpec)

/-- ITS FALSE NEIGHBOUR: 'it returns false'. Refute it at one input. -/
def admitCrowdsWrong : ChangeSpec := { name := "admitCrowds", fn := fun _ => fun
  | [d1, d2, d3, d4] => { results := [.lit (.bool false)], args := [d1, d2, d3, d4] }
  | _ => none }
def AdmitCrowdsWrongFalsely : Prop := admitCrowdsRow.holds Try.pinned (OpenSpec.ofChange admitCrowdsWrong)

/-- 'chargeparklaw28.AdmitMatchesReference': WHATEVER THE INPUT: true; the input reads as it did. -/
def admitMatchesReferenceSpec : ChangeSpec := { name := "admitMatchesReference", fn := fun _ => fun
  | [d1, d2, d3, d4] => { results := [.lit (.bool true)], args := [d1, d2, d3, d4] }
  | _ => none }
def admitMatchesReferenceRow : OpenClaim := { program := "ytgfcnkfmgpakkaa", sum := "7a6a3fdf20d21407cb1ea9bb1d0678b28e60d870c1d3349c1564618a6aff3af2", func := "chargepark/chargeparklaw28.AdmitMatchesReference", spec := "admitMatchesReference", unfollowed := true, recurses := true, apart := false }
def AdmitMatchesReferenceSaid : Prop := admitMatchesReferenceRow.holds Try.pinned (OpenSpec.ofChange admitMatchesReferenceSpec)

/-- ITS FALSE NEIGHBOUR: 'it returns false'. Refute it at one input. -/
def admitMatchesReferenceWrong : ChangeSpec := { name := "admitMatchesReference", fn := fun _ => fun
  | [d1, d2, d3, d4] => { results := [.lit (.bool false)], args := [d1, d2, d3, d4] }
  | _ => none }
def AdmitMatchesReferenceWrongFalsely : Prop := admitMatchesReferenceRow.holds Try.pinned (OpenSpec.ofChange admitMatchesReferenceWrong)

/-- 'chargeparklaw29.ReplanMatchesReference': WHATEVER THE INPUT: true; the input reads as it did. -/
def replanMatchesReferenceSpec : ChangeSpec := { name := "replanMatchesReference", fn := fun _ => fun
  | [d1, d2, d3, d4] => { results := [.lit (.bool true)], args := [d1, d2, d3, d4] }
  | _ => none }
def replanMatchesReferenceRow : OpenClaim := { program := "ytgfcnkfmgpakkaa", sum := "7a6a3fdf20d21407cb1ea9bb1d0678b28e60d870c1d3349c1564618a6aff3af2", func := "chargepark/chargeparklaw29.ReplanMatchesReference", spec := "replanMatchesReference", unfollowed := true, recurses := true, apart := false }
def ReplanMatchesReferenceSaid : Prop := replanMatchesReferenceRow.holds Try.pinned (OpenSpec.ofChange replanMatchesReferenceSpec)

/-- ITS FALSE NEIGHBOUR: 'it returns false'. Refute it at one input. -/
def replanMatchesReferenceWrong : ChangeSpec := { name := "replanMatchesReference", fn := fun _ => fun
  | [d1, d2, d3, d4] => { results := [.lit (.bool false)], args := [d1, d2, d3, d4] }
  | _ => none }
def ReplanMatchesReferenceWrongFalsely : Prop := replanMatchesReferenceRow.holds Try.pinned (OpenSpec.ofChange replanMatchesReferenceWrong)

/-- 'chargeparklaw29.ReplanRight': WHATEVER THE INPUT: true; the input reads as it did. -/
def replanRightSpec : ChangeSpec := { name := "replanRight", fn := fun _ => fun
  | [d1, d2] => { results := [.lit (.bool true)], args := [d1, d2] }
  | _ => none }
def replanRightRow : OpenClaim := { program := "ytgfcnkfmgpakkaa", sum := "7a6a3fdf20d21407cb1ea9bb1d0678b28e60d870c1d3349c1564618a6aff3af2", func := "chargepark/chargeparklaw29.ReplanRight", spec := "replanRight", unfollowed := true, recurses := true, apart := false }
def ReplanRightSaid : Prop := replanRightRow.holds Try.pinned (OpenSpec.ofChange replanRightSpec)

/-- ITS FALSE NEIGHBOUR: 'it returns false'. Refute it at one input. -/
def replanRightWrong : ChangeSpec := { name := "replanRight", fn := fun _ => fun
  | [d1, d2] => { results := [.lit (.bool false)], args := [d1, d2] }
  | _ => none }
def ReplanRightWrongFalsely : Prop := replanRightRow.holds Try.pinned (OpenSpec.ofChange replanRightWrong)

/-- 'chargeparklaw29.ReplanOnly': WHATEVER THE INPUT: true; the input reads as it did. -/
def replanOnlySpec : ChangeSpec := { name := "replanOnly", fn := fun _ => fun
  | [d1, d2, d3, d4, d5] => { results := [.lit (.bool true)], args := [d1, d2, d3, d4, d5] }
  | _ => none }
def replanOnlyRow : OpenClaim := { program := "ytgfcnkfmgpakkaa", sum := "7a6a3fdf20d21407cb1ea9bb1d0678b28e60d870c1d3349c1564618a6aff3af2", func := "chargepark/chargeparklaw29.ReplanOnly", spec := "replanOnly", unfollowed := true, recurses := true, apart := false }
def ReplanOnlySaid : Prop := replanOnlyRow.holds Try.pinned (OpenSpec.ofChange replanOnlySpec)

/-- ITS FALSE NEIGHBOUR: 'it returns false'. Refute it at one input. -/
def replanOnlyWrong : ChangeSpec := { name := "replanOnly", fn := fun _ => fun
  | [d1, d2, d3, d4, d5] => { results := [.lit (.bool false)], args := [d1, d2, d3, d4, d5] }
  | _ => none }
def ReplanOnlyWrongFalsely : Prop := replanOnlyRow.holds Try.pinned (OpenSpec.ofChange replanOnlyWrong)

/-- 'chargeparklaw29.ReplanBest': WHATEVER THE INPUT: true; the input reads as it did. -/
def replanBestSpec : ChangeSpec := { name := "replanBest", fn := fun _ => fun
  | [d1, d2, d3] => { results := [.lit (.bool true)], args := [d1, d2, d3] }
  | _ => none }
def replanBestRow : OpenClaim := { program := "ytgfcnkfmgpakkaa", sum := "7a6a3fdf20d21407cb1ea9bb1d0678b28e60d870c1d3349c1564618a6aff3af2", func := "chargepark/chargeparklaw29.ReplanBest", spec := "replanBest", unfollowed := true, recurses := true, apart := false }
def ReplanBestSaid : Prop := replanBestRow.holds Try.pinned (OpenSpec.ofChange replanBestSpec)

/-- ITS FALSE NEIGHBOUR: 'it returns false'. Refute it at one input. -/
def replanBestWrong : ChangeSpec := { name := "replanBest", fn := fun _ => fun
  | [d1, d2, d3] => { results := [.lit (.bool false)], args := [d1, d2, d3] }
  | _ => none }
def ReplanBestWrongFalsely : Prop := replanBestRow.holds Try.pinned (OpenSpec.ofChange replanBestWrong)

/-- 'chargeparklaw29.ReplanAll': WHATEVER THE INPUT: true; the input reads as it did. -/
def replanAllSpec : ChangeSpec := { name := "replanAll", fn := fun _ => fun
  | [d1, d2] => { results := [.lit (.bool true)], args := [d1, d2] }
  | _ => none }
def replanAllRow : OpenClaim := { program := "ytgfcnkfmgpakkaa", sum := "7a6a3fdf20d21407cb1ea9bb1d0678b28e60d870c1d3349c1564618a6aff3af2", func := "chargepark/chargeparklaw29.ReplanAll", spec := "replanAll", unfollowed := true, recurses := true, apart := false }
def ReplanAllSaid : Prop := replanAllRow.holds Try.pinned (OpenSpec.ofChange replanAllSpec)

/-- ITS FALSE NEIGHBOUR: 'it returns false'. Refute it at one input. -/
def replanAllWrong : ChangeSpec := { name := "replanAll", fn := fun _ => fun
  | [d1, d2] => { results := [.lit (.bool false)], args := [d1, d2] }
  | _ => none }
def ReplanAllWrongFalsely : Prop := replanAllRow.holds Try.pinned (OpenSpec.ofChange replanAllWrong)

/-- 'chargeparklaw29.ReplanLower': WHATEVER THE INPUT: true; the input reads as it did. -/
def replanLowerSpec : ChangeSpec := { name := "replanLower", fn := fun _ => fun
  | [d1, d2, d3] => { results := [.lit (.bool true)], args := [d1, d2, d3] }
  | _ => none }
def replanLowerRow : OpenClaim := { program := "ytgfcnkfmgpakkaa", sum := "7a6a3fdf20d21407cb1ea9bb1d0678b28e60d870c1d3349c1564618a6aff3af2", func := "chargepark/chargeparklaw29.ReplanLower", spec := "replanLower", unfollowed := true, recurses := true, apart := false }
def ReplanLowerSaid : Prop := replanLowerRow.holds Try.pinned (OpenSpec.ofChange replanLowerSpec)

/-- ITS FALSE NEIGHBOUR: 'it returns false'. Refute it at one input. -/
def replanLowerWrong : ChangeSpec := { name := "replanLower", fn := fun _ => fun
  | [d1, d2, d3] => { results := [.lit (.bool false)], args := [d1, d2, d3] }
  | _ => none }
def ReplanLowerWrongFalsely : Prop := replanLowerRow.holds Try.pinned (OpenSpec.ofChange replanLowerWrong)

/-- 'chargeparklaw29.ReplanMore': WHATEVER THE INPUT: true; the input reads as it did. -/
def replanMoreSpec : ChangeSpec := { name := "replanMore", fn := fun _ => fun
  | [d1, d2, d3] => { results := [.lit (.bool true)], args := [d1, d2, d3] }
  | _ => none }
def replanMoreRow : OpenClaim := { program := "ytgfcnkfmgpakkaa", sum := "7a6a3fdf20d21407cb1ea9bb1d0678b28e60d870c1d3349c1564618a6aff3af2", func := "chargepark/chargeparklaw29.ReplanMore", spec := "replanMore", unfollowed := true, recurses := true, apart := false }
def ReplanMoreSaid : Prop := replanMoreRow.holds Try.pinned (OpenSpec.ofChange replanMoreSpec)

/-- ITS FALSE NEIGHBOUR: 'it returns false'. Refute it at one input. -/
def replanMoreWrong : ChangeSpec := { name := "replanMore", fn := fun _ => fun
  | [d1, d2, d3] => { results := [.lit (.bool false)], args := [d1, d2, d3] }
  | _ => none }
def ReplanMoreWrongFalsely : Prop := replanMoreRow.holds Try.pinned (OpenSpec.ofChange replanMoreWrong)

/- THE SECOND FORM. 'bulk': how many values and letters a reading holds, each counted each time it is reached (what is shared counts as often as it is met; a slice's spare places count too). A statement '..UptoSaid' is the law's where the arguments, and the package variables that the reading takes, are together of bulk at most 1048576: NARROWER than '..Said'. Prove '..Said' where nothing that the law and all that it calls make is longer than what came in: it says more and counts as full. Else prove '..UptoSaid'. A law counts once. -/
mutual
def uptoBulk {H : Type} : DataW H → Nat
  | .lit (.string bytes) => bytes.length + 1
  | .lit _ => 1
  | .nil => 1
  | .ptr d => uptoBulk d + 1
  | .slice elems spare => uptoBulkAll elems + uptoBulkAll spare + 1
  | .agg parts => uptoBulkAll parts + 1
  | .iface _ d => uptoBulk d + 1
  | .map entries => uptoBulkEntries entries + 1
  | .held _ => 1
def uptoBulkAll {H : Type} : List (DataW H) → Nat
  | [] => 0
  | d :: r => uptoBulk d + uptoBulkAll r
def uptoBulkEntries {H : Type} : List (Lit × DataW H) → Nat
  | [] => 0
  | x :: r => uptoBulkEntry x + uptoBulkEntries r
def uptoBulkEntry {H : Type} : Lit × DataW H → Nat
  | (.string bytes, d) => bytes.length + uptoBulk d + 1
  | (_, d) => uptoBulk d + 1
 end
def uptoSmall : (H : Type) → List (DataW H) → Bool := fun _ ds => decide (uptoBulkAll ds ≤ 1048576)
def OpenSpec.upto (s : _root_.Go.ChangeSpec) : _root_.Go.OpenSpec := { _root_.Go.OpenSpec.ofChange s with cond := some uptoSmall }

/-- 'chargeparklaw28.AdmitProof', WHERE WHAT IT READS IS OF BULK AT MOST 1048576: true; the input reads as it did. -/
def admitProofUptoRow : OpenClaim := { program := "ytgfcnkfmgpakkaa", sum := "7a6a3fdf20d21407cb1ea9bb1d0678b28e60d870c1d3349c1564618a6aff3af2", func := "chargepark/chargeparklaw28.AdmitProof", spec := "admitProof", unfollowed := true, recurses := true, apart := false, narrowed := true }
def AdmitProofUptoSaid : Prop := admitProofUptoRow.holds Try.pinned (OpenSpec.upto admitProofSpec)

/-- 'chargeparklaw28.AdmitRoom', WHERE WHAT IT READS IS OF BULK AT MOST 1048576: true; the input reads as it did. -/
def admitRoomUptoRow : OpenClaim := { program := "ytgfcnkfmgpakkaa", sum := "7a6a3fdf20d21407cb1ea9bb1d0678b28e60d870c1d3349c1564618a6aff3af2", func := "chargepark/chargeparklaw28.AdmitRoom", spec := "admitRoom", unfollowed := true, recurses := true, apart := false, narrowed := true }
def AdmitRoomUptoSaid : Prop := admitRoomUptoRow.holds Try.pinned (OpenSpec.upto admitRoomSpec)

/-- 'chargeparklaw28.AdmitKeeps', WHERE WHAT IT READS IS OF BULK AT MOST 1048576: true; the input reads as it did. -/
def admitKeepsUptoRow : OpenClaim := { program := "ytgfcnkfmgpakkaa", sum := "7a6a3fdf20d21407cb1ea9bb1d0678b28e60d870c1d3349c1564618a6aff3af2", func := "chargepark/chargeparklaw28.AdmitKeeps", spec := "admitKeeps", unfollowed := true, recurses := true, apart := false, narrowed := true }
def AdmitKeepsUptoSaid : Prop := admitKeepsUptoRow.holds Try.pinned (OpenSpec.upto admitKeepsSpec)

/-- 'chargeparklaw28.AdmitToTheEnd', WHERE WHAT IT READS IS OF BULK AT MOST 1048576: true; the input reads as it did. -/
def admitToTheEndUptoRow : OpenClaim := { program := "ytgfcnkfmgpakkaa", sum := "7a6a3fdf20d21407cb1ea9bb1d0678b28e60d870c1d3349c1564618a6aff3af2", func := "chargepark/chargeparklaw28.AdmitToTheEnd", spec := "admitToTheEnd", unfollowed := true, recurses := true, apart := false, narrowed := true }
def AdmitToTheEndUptoSaid : Prop := admitToTheEndUptoRow.holds Try.pinned (OpenSpec.upto admitToTheEndSpec)

/-- 'chargeparklaw28.AdmitOrder', WHERE WHAT IT READS IS OF BULK AT MOST 1048576: true; the input reads as it did. -/
def admitOrderUptoRow : OpenClaim := { program := "ytgfcnkfmgpakkaa", sum := "7a6a3fdf20d21407cb1ea9bb1d0678b28e60d870c1d3349c1564618a6aff3af2", func := "chargepark/chargeparklaw28.AdmitOrder", spec := "admitOrder", unfollowed := true, recurses := true, apart := false, narrowed := true }
def AdmitOrderUptoSaid : Prop := admitOrderUptoRow.holds Try.pinned (OpenSpec.upto admitOrderSpec)

/-- 'chargeparklaw28.AdmitModest', WHERE WHAT IT READS IS OF BULK AT MOST 1048576: true; the input reads as it did. -/
def admitModestUptoRow : OpenClaim := { program := "ytgfcnkfmgpakkaa", sum := "7a6a3fdf20d21407cb1ea9bb1d0678b28e60d870c1d3349c1564618a6aff3af2", func := "chargepark/chargeparklaw28.AdmitModest", spec := "admitModest", unfollowed := true, recurses := true, apart := false, narrowed := true }
def AdmitModestUptoSaid : Prop := admitModestUptoRow.holds Try.pinned (OpenSpec.upto admitModestSpec)

/-- 'chargeparklaw28.AdmitCrowds', WHERE WHAT IT READS IS OF BULK AT MOST 1048576: true; the input reads as it did. -/
def admitCrowdsUptoRow : OpenClaim := { program := "ytgfcnkfmgpakkaa", sum := "7a6a3fdf20d21407cb1ea9bb1d0678b28e60d870c1d3349c1564618a6aff3af2", func := "chargepark/chargeparklaw28.AdmitCrowds", spec := "admitCrowds", unfollowed := true, recurses := true, apart := false, narrowed := true }
def AdmitCrowdsUptoSaid : Prop := admitCrowdsUptoRow.holds Try.pinned (OpenSpec.upto admitCrowdsSpec)

/-- 'chargeparklaw28.AdmitMatchesReference', WHERE WHAT IT READS IS OF BULK AT MOST 1048576: true; the input reads as it did. -/
def admitMatchesReferenceUptoRow : OpenClaim := { program := "ytgfcnkfmgpakkaa", sum := "7a6a3fdf20d21407cb1ea9bb1d0678b28e60d870c1d3349c1564618a6aff3af2", func := "chargepark/chargeparklaw28.AdmitMatchesReference", spec := "admitMatchesReference", unfollowed := true, recurses := true, apart := false, narrowed := true }
def AdmitMatchesReferenceUptoSaid : Prop := admitMatchesReferenceUptoRow.holds Try.pinned (OpenSpec.upto admitMatchesReferenceSpec)

/-- 'chargeparklaw29.ReplanMatchesReference', WHERE WHAT IT READS IS OF BULK AT MOST 1048576: true; the input reads as it did. -/
def replanMatchesReferenceUptoRow : OpenClaim := { program := "ytgfcnkfmgpakkaa", sum := "7a6a3fdf20d21407cb1ea9bb1d0678b28e60d870c1d3349c1564618a6aff3af2", func := "chargepark/chargeparklaw29.ReplanMatchesReference", spec := "replanMatchesReference", unfollowed := true, recurses := true, apart := false, narrowed := true }
def ReplanMatchesReferenceUptoSaid : Prop := replanMatchesReferenceUptoRow.holds Try.pinned (OpenSpec.upto replanMatchesReferenceSpec)

/-- 'chargeparklaw29.ReplanRight', WHERE WHAT IT READS IS OF BULK AT MOST 1048576: true; the input reads as it did. -/
def replanRightUptoRow : OpenClaim := { program := "ytgfcnkfmgpakkaa", sum := "7a6a3fdf20d21407cb1ea9bb1d0678b28e60d870c1d3349c1564618a6aff3af2", func := "chargepark/chargeparklaw29.ReplanRight", spec := "replanRight", unfollowed := true, recurses := true, apart := false, narrowed := true }
def ReplanRightUptoSaid : Prop := replanRightUptoRow.holds Try.pinned (OpenSpec.upto replanRightSpec)

/-- 'chargeparklaw29.ReplanOnly', WHERE WHAT IT READS IS OF BULK AT MOST 1048576: true; the input reads as it did. -/
def replanOnlyUptoRow : OpenClaim := { program := "ytgfcnkfmgpakkaa", sum := "7a6a3fdf20d21407cb1ea9bb1d0678b28e60d870c1d3349c1564618a6aff3af2", func := "chargepark/chargeparklaw29.ReplanOnly", spec := "replanOnly", unfollowed := true, recurses := true, apart := false, narrowed := true }
def ReplanOnlyUptoSaid : Prop := replanOnlyUptoRow.holds Try.pinned (OpenSpec.upto replanOnlySpec)

/-- 'chargeparklaw29.ReplanBest', WHERE WHAT IT READS IS OF BULK AT MOST 1048576: true; the input reads as it did. -/
def replanBestUptoRow : OpenClaim := { program := "ytgfcnkfmgpakkaa", sum := "7a6a3fdf20d21407cb1ea9bb1d0678b28e60d870c1d3349c1564618a6aff3af2", func := "chargepark/chargeparklaw29.ReplanBest", spec := "replanBest", unfollowed := true, recurses := true, apart := false, narrowed := true }
def ReplanBestUptoSaid : Prop := replanBestUptoRow.holds Try.pinned (OpenSpec.upto replanBestSpec)

/-- 'chargeparklaw29.ReplanAll', WHERE WHAT IT READS IS OF BULK AT MOST 1048576: true; the input reads as it did. -/
def replanAllUptoRow : OpenClaim := { program := "ytgfcnkfmgpakkaa", sum := "7a6a3fdf20d21407cb1ea9bb1d0678b28e60d870c1d3349c1564618a6aff3af2", func := "chargepark/chargeparklaw29.ReplanAll", spec := "replanAll", unfollowed := true, recurses := true, apart := false, narrowed := true }
def ReplanAllUptoSaid : Prop := replanAllUptoRow.holds Try.pinned (OpenSpec.upto replanAllSpec)

/-- 'chargeparklaw29.ReplanLower', WHERE WHAT IT READS IS OF BULK AT MOST 1048576: true; the input reads as it did. -/
def replanLowerUptoRow : OpenClaim := { program := "ytgfcnkfmgpakkaa", sum := "7a6a3fdf20d21407cb1ea9bb1d0678b28e60d870c1d3349c1564618a6aff3af2", func := "chargepark/chargeparklaw29.ReplanLower", spec := "replanLower", unfollowed := true, recurses := true, apart := false, narrowed := true }
def ReplanLowerUptoSaid : Prop := replanLowerUptoRow.holds Try.pinned (OpenSpec.upto replanLowerSpec)

/-- 'chargeparklaw29.ReplanMore', WHERE WHAT IT READS IS OF BULK AT MOST 1048576: true; the input reads as it did. -/
def replanMoreUptoRow : OpenClaim := { program := "ytgfcnkfmgpakkaa", sum := "7a6a3fdf20d21407cb1ea9bb1d0678b28e60d870c1d3349c1564618a6aff3af2", func := "chargepark/chargeparklaw29.ReplanMore", spec := "replanMore", unfollowed := true, recurses := true, apart := false, narrowed := true }
def ReplanMoreUptoSaid : Prop := replanMoreUptoRow.holds Try.pinned (OpenSpec.upto replanMoreSpec)

end Rows
end Go.Proofs.Ytgfcnkfmgpakkaa
