/-
  No cell of these rows narrows 'for every input' (looked for: loops, veiled, ifaces, maps, wideKeys, modest, calm, conditions, laid).
  DERIVED. THE GIVEN ROWS OF THIS SEAT. 7 by the template 'for every input the law returns true; each argument reads behind the call as it read before'; 0 by the template 'total and deterministic' (their statements: YtahpoikbnjhkgaaTotals.lean).
  GIVEN WITH THE SEED: the statements are not yours to turn. If you find one false, say at which input.
  Laid BY PROGRAM, IN A SANDBOX (cutbox-rows.mjs): the forced cells as the released guide's own fill.sh prints them over the translation aab8872e5f8fae9d… (all of the seat's roots in one cut). By AI agents, Wed Nov 11 2026. No macro, syntax, notation, axiom, sorry.
-/
import Derived.Test.YtahpoikbnjhkgaaChecked
import GoSem.Claim
import GoSem.ClaimJoined
import GoSem.ClaimMapViews
import Derived.JoinedTies
import Derived.KernelRfl
namespace Go.Proofs.Ytahpoikbnjhkgaa
/- THE CELL 'sum', in the pinned program and in every row, IS THE sha256 OF THE DUMP (.gsa) THAT YtahpoikbnjhkgaaProg.lean LOADS. Nothing in Lean hashes anything: it is a label: what it is worth is what the hold of that sum in a sandbox is worth. -/
noncomputable def Try.pinned : Pinned := { name := "ytahpoikbnjhkgaa", sum := "aab8872e5f8fae9d841f11195465890e2e76789c53b8e6f8891a130a268bd6e3", checked := Try.checked }
namespace Rows
def none {H : Type} : Left H := { results := [], args := [] }

/-- 'chargeparklaw31.MoneyMatchesReference': WHATEVER THE INPUT: true; the input reads as it did. -/
def moneyMatchesReferenceSpec : ChangeSpec := { name := "moneyMatchesReference", fn := fun _ => fun
  | [d1, d2, d3, d4] => { results := [.lit (.bool true)], args := [d1, d2, d3, d4] }
  | _ => none }
def moneyMatchesReferenceRow : OpenClaim := { program := "ytahpoikbnjhkgaa", sum := "aab8872e5f8fae9d841f11195465890e2e76789c53b8e6f8891a130a268bd6e3", func := "chargepark/chargeparklaw31.MoneyMatchesReference", spec := "moneyMatchesReference", unfollowed := true, recurses := true, apart := false }
def MoneyMatchesReferenceSaid : Prop := moneyMatchesReferenceRow.holds Try.pinned (OpenSpec.ofChange moneyMatchesReferenceSpec)

/-- ITS FALSE NEIGHBOUR: 'it returns false'. Refute it at one input. -/
def moneyMatchesReferenceWrong : ChangeSpec := { name := "moneyMatchesReference", fn := fun _ => fun
  | [d1, d2, d3, d4] => { results := [.lit (.bool false)], args := [d1, d2, d3, d4] }
  | _ => none }
def MoneyMatchesReferenceWrongFalsely : Prop := moneyMatchesReferenceRow.holds Try.pinned (OpenSpec.ofChange moneyMatchesReferenceWrong)

/-- 'chargeparklaw31.MoneyRounds': WHATEVER THE INPUT: true; the input reads as it did. -/
def moneyRoundsSpec : ChangeSpec := { name := "moneyRounds", fn := fun _ => fun
  | [d1, d2, d3] => { results := [.lit (.bool true)], args := [d1, d2, d3] }
  | _ => none }
def moneyRoundsRow : OpenClaim := { program := "ytahpoikbnjhkgaa", sum := "aab8872e5f8fae9d841f11195465890e2e76789c53b8e6f8891a130a268bd6e3", func := "chargepark/chargeparklaw31.MoneyRounds", spec := "moneyRounds", unfollowed := true, recurses := true, apart := false }
def MoneyRoundsSaid : Prop := moneyRoundsRow.holds Try.pinned (OpenSpec.ofChange moneyRoundsSpec)

/-- ITS FALSE NEIGHBOUR: 'it returns false'. Refute it at one input. -/
def moneyRoundsWrong : ChangeSpec := { name := "moneyRounds", fn := fun _ => fun
  | [d1, d2, d3] => { results := [.lit (.bool false)], args := [d1, d2, d3] }
  | _ => none }
def MoneyRoundsWrongFalsely : Prop := moneyRoundsRow.holds Try.pinned (OpenSpec.ofChange moneyRoundsWrong)

/-- 'chargeparklaw31.MoneyParts': WHATEVER THE INPUT: true; the input reads as it did. -/
def moneyPartsSpec : ChangeSpec := { name := "moneyParts", fn := fun _ => fun
  | [d1, d2, d3, d4] => { results := [.lit (.bool true)], args := [d1, d2, d3, d4] }
  | _ => none }
def moneyPartsRow : OpenClaim := { program := "ytahpoikbnjhkgaa", sum := "aab8872e5f8fae9d841f11195465890e2e76789c53b8e6f8891a130a268bd6e3", func := "chargepark/chargeparklaw31.MoneyParts", spec := "moneyParts", unfollowed := true, recurses := true, apart := false }
def MoneyPartsSaid : Prop := moneyPartsRow.holds Try.pinned (OpenSpec.ofChange moneyPartsSpec)

/-- ITS FALSE NEIGHBOUR: 'it returns false'. Refute it at one input. -/
def moneyPartsWrong : ChangeSpec := { name := "moneyParts", fn := fun _ => fun
  | [d1, d2, d3, d4] => { results := [.lit (.bool false)], args := [d1, d2, d3, d4] }
  | _ => none }
def MoneyPartsWrongFalsely : Prop := moneyPartsRow.holds Try.pinned (OpenSpec.ofChange moneyPartsWrong)

/-- 'chargeparklaw31.MoneyStarted': WHATEVER THE INPUT: true; the input reads as it did. -/
def moneyStartedSpec : ChangeSpec := { name := "moneyStarted", fn := fun _ => fun
  | [d1, d2, d3, d4] => { results := [.lit (.bool true)], args := [d1, d2, d3, d4] }
  | _ => none }
def moneyStartedRow : OpenClaim := { program := "ytahpoikbnjhkgaa", sum := "aab8872e5f8fae9d841f11195465890e2e76789c53b8e6f8891a130a268bd6e3", func := "chargepark/chargeparklaw31.MoneyStarted", spec := "moneyStarted", unfollowed := true, recurses := true, apart := false }
def MoneyStartedSaid : Prop := moneyStartedRow.holds Try.pinned (OpenSpec.ofChange moneyStartedSpec)

/-- ITS FALSE NEIGHBOUR: 'it returns false'. Refute it at one input. -/
def moneyStartedWrong : ChangeSpec := { name := "moneyStarted", fn := fun _ => fun
  | [d1, d2, d3, d4] => { results := [.lit (.bool false)], args := [d1, d2, d3, d4] }
  | _ => none }
def MoneyStartedWrongFalsely : Prop := moneyStartedRow.holds Try.pinned (OpenSpec.ofChange moneyStartedWrong)

/-- 'chargeparklaw31.MoneySplits': WHATEVER THE INPUT: true; the input reads as it did. -/
def moneySplitsSpec : ChangeSpec := { name := "moneySplits", fn := fun _ => fun
  | [d1, d2] => { results := [.lit (.bool true)], args := [d1, d2] }
  | _ => none }
def moneySplitsRow : OpenClaim := { program := "ytahpoikbnjhkgaa", sum := "aab8872e5f8fae9d841f11195465890e2e76789c53b8e6f8891a130a268bd6e3", func := "chargepark/chargeparklaw31.MoneySplits", spec := "moneySplits", unfollowed := true, recurses := true, apart := false }
def MoneySplitsSaid : Prop := moneySplitsRow.holds Try.pinned (OpenSpec.ofChange moneySplitsSpec)

/-- ITS FALSE NEIGHBOUR: 'it returns false'. Refute it at one input. -/
def moneySplitsWrong : ChangeSpec := { name := "moneySplits", fn := fun _ => fun
  | [d1, d2] => { results := [.lit (.bool false)], args := [d1, d2] }
  | _ => none }
def MoneySplitsWrongFalsely : Prop := moneySplitsRow.holds Try.pinned (OpenSpec.ofChange moneySplitsWrong)

/-- 'chargeparklaw31.MoneyOrder': WHATEVER THE INPUT: true; the input reads as it did. -/
def moneyOrderSpec : ChangeSpec := { name := "moneyOrder", fn := fun _ => fun
  | [d1, d2, d3, d4, d5, d6] => { results := [.lit (.bool true)], args := [d1, d2, d3, d4, d5, d6] }
  | _ => none }
def moneyOrderRow : OpenClaim := { program := "ytahpoikbnjhkgaa", sum := "aab8872e5f8fae9d841f11195465890e2e76789c53b8e6f8891a130a268bd6e3", func := "chargepark/chargeparklaw31.MoneyOrder", spec := "moneyOrder", unfollowed := true, recurses := true, apart := false }
def MoneyOrderSaid : Prop := moneyOrderRow.holds Try.pinned (OpenSpec.ofChange moneyOrderSpec)

/-- ITS FALSE NEIGHBOUR: 'it returns false'. Refute it at one input. -/
def moneyOrderWrong : ChangeSpec := { name := "moneyOrder", fn := fun _ => fun
  | [d1, d2, d3, d4, d5, d6] => { results := [.lit (.bool false)], args := [d1, d2, d3, d4, d5, d6] }
  | _ => none }
def MoneyOrderWrongFalsely : Prop := moneyOrderRow.holds Try.pinned (OpenSpec.ofChange moneyOrderWrong)

/-- 'chargeparklaw31.MoneyScale': WHATEVER THE INPUT: true; the input reads as it did. -/
def moneyScaleSpec : ChangeSpec := { name := "moneyScale", fn := fun _ => fun
  | [d1, d2, d3, d4, d5, d6] => { results := [.lit (.bool true)], args := [d1, d2, d3, d4, d5, d6] }
  | _ => none }
def moneyScaleRow : OpenClaim := { program := "ytahpoikbnjhkgaa", sum := "aab8872e5f8fae9d841f11195465890e2e76789c53b8e6f8891a130a268bd6e3", func := "chargepark/chargeparklaw31.MoneyScale", spec := "moneyScale", unfollowed := true, recurses := true, apart := false }
def MoneyScaleSaid : Prop := moneyScaleRow.holds Try.pinned (OpenSpec.ofChange moneyScaleSpec)

/-- ITS FALSE NEIGHBOUR: 'it returns false'. Refute it at one input. -/
def moneyScaleWrong : ChangeSpec := { name := "moneyScale", fn := fun _ => fun
  | [d1, d2, d3, d4, d5, d6] => { results := [.lit (.bool false)], args := [d1, d2, d3, d4, d5, d6] }
  | _ => none }
def MoneyScaleWrongFalsely : Prop := moneyScaleRow.holds Try.pinned (OpenSpec.ofChange moneyScaleWrong)

/- THE SECOND FORM. 'bulk': how many values and letters a reading holds, each counted each time it is reached (what is shared counts as often as it is met; a slice's spare places count too). A statement '..UptoSaid' is the law's where the arguments, and the package variables that the reading takes, are together of bulk at most 1048576: NARROWER than '..Said'. Prove '..Said' where nothing that the law and all that it calls make is longer than what came in: it says more and counts as full. Else prove '..UptoSaid'. A law counts once. -/
mutual
def uptoBulk {H : Type} : DataW H → Nat
  | .lit (.string bytes) => bytes.length + 1
  | .lit _ => 1
  | .nil => 1
  | .ptr d => uptoBulk d + 1
  | .slice elems spare => uptoBulkAll elems + uptoBulkAll spare + 1
  | .agg parts => uptoBulkAll parts + 1
  | .iface _ d => uptoBulk d + 1
  | .map entries => uptoBulkEntries entries + 1
  | .held _ => 1
def uptoBulkAll {H : Type} : List (DataW H) → Nat
  | [] => 0
  | d :: r => uptoBulk d + uptoBulkAll r
def uptoBulkEntries {H : Type} : List (Lit × DataW H) → Nat
  | [] => 0
  | x :: r => uptoBulkEntry x + uptoBulkEntries r
def uptoBulkEntry {H : Type} : Lit × DataW H → Nat
  | (.string bytes, d) => bytes.length + uptoBulk d + 1
  | (_, d) => uptoBulk d + 1
 end
def uptoSmall : (H : Type) → List (DataW H) → Bool := fun _ ds => decide (uptoBulkAll ds ≤ 1048576)
def OpenSpec.upto (s : _root_.Go.ChangeSpec) : _root_.Go.OpenSpec := { _root_.Go.OpenSpec.ofChange s with cond := some uptoSmall }

/-- 'chargeparklaw31.MoneyMatchesReference', WHERE WHAT IT READS IS OF BULK AT MOST 1048576: true; the input reads as it did. -/
def moneyMatchesReferenceUptoRow : OpenClaim := { program := "ytahpoikbnjhkgaa", sum := "aab8872e5f8fae9d841f11195465890e2e76789c53b8e6f8891a130a268bd6e3", func := "chargepark/chargeparklaw31.MoneyMatchesReference", spec := "moneyMatchesReference", unfollowed := true, recurses := true, apart := false, narrowed := true }
def MoneyMatchesReferenceUptoSaid : Prop := moneyMatchesReferenceUptoRow.holds Try.pinned (OpenSpec.upto moneyMatchesReferenceSpec)

/-- 'chargeparklaw31.MoneyRounds', WHERE WHAT IT READS IS OF BULK AT MOST 1048576: true; the input reads as it did. -/
def moneyRoundsUptoRow : OpenClaim := { program := "ytahpoikbnjhkgaa", sum := "aab8872e5f8fae9d841f11195465890e2e76789c53b8e6f8891a130a268bd6e3", func := "chargepark/chargeparklaw31.MoneyRounds", spec := "moneyRounds", unfollowed := true, recurses := true, apart := false, narrowed := true }
def MoneyRoundsUptoSaid : Prop := moneyRoundsUptoRow.holds Try.pinned (OpenSpec.upto moneyRoundsSpec)

/-- 'chargeparklaw31.MoneyParts', WHERE WHAT IT READS IS OF BULK AT MOST 1048576: true; the input reads as it did. -/
def moneyPartsUptoRow : OpenClaim := { program := "ytahpoikbnjhkgaa", sum := "aab8872e5f8fae9d841f11195465890e2e76789c53b8e6f8891a130a268bd6e3", func := "chargepark/chargeparklaw31.MoneyParts", spec := "moneyParts", unfollowed := true, recurses := true, apart := false, narrowed := true }
def MoneyPartsUptoSaid : Prop := moneyPartsUptoRow.holds Try.pinned (OpenSpec.upto moneyPartsSpec)

/-- 'chargeparklaw31.MoneyStarted', WHERE WHAT IT READS IS OF BULK AT MOST 1048576: true; the input reads as it did. -/
def moneyStartedUptoRow : OpenClaim := { program := "ytahpoikbnjhkgaa", sum := "aab8872e5f8fae9d841f11195465890e2e76789c53b8e6f8891a130a268bd6e3", func := "chargepark/chargeparklaw31.MoneyStarted", spec := "moneyStarted", unfollowed := true, recurses := true, apart := false, narrowed := true }
def MoneyStartedUptoSaid : Prop := moneyStartedUptoRow.holds Try.pinned (OpenSpec.upto moneyStartedSpec)

/-- 'chargeparklaw31.MoneySplits', WHERE WHAT IT READS IS OF BULK AT MOST 1048576: true; the input reads as it did. -/
def moneySplitsUptoRow : OpenClaim := { program := "ytahpoikbnjhkgaa", sum := "aab8872e5f8fae9d841f11195465890e2e76789c53b8e6f8891a130a268bd6e3", func := "chargepark/chargeparklaw31.MoneySplits", spec := "moneySplits", unfollowed := true, recurses := true, apart := false, narrowed := true }
def MoneySplitsUptoSaid : Prop := moneySplitsUptoRow.holds Try.pinned (OpenSpec.upto moneySplitsSpec)

/-- 'chargeparklaw31.MoneyOrder', WHERE WHAT IT READS IS OF BULK AT MOST 1048576: true; the input reads as it did. -/
def moneyOrderUptoRow : OpenClaim := { program := "ytahpoikbnjhkgaa", sum := "aab8872e5f8fae9d841f11195465890e2e76789c53b8e6f8891a130a268bd6e3", func := "chargepark/chargeparklaw31.MoneyOrder", spec := "moneyOrder", unfollowed := true, recurses := true, apart := false, narrowed := true }
def MoneyOrderUptoSaid : Prop := moneyOrderUptoRow.holds Try.pinned (OpenSpec.upto moneyOrderSpec)

/-- 'chargeparklaw31.MoneyScale', WHERE WHAT IT READS IS OF BULK AT MOST 1048576: true; the input reads as it did. -/
def moneyScaleUptoRow : OpenClaim := { program := "ytahpoikbnjhkgaa", sum := "aab8872e5f8fae9d841f11195465890e2e76789c53b8e6f8891a130a268bd6e3", func := "chargepark/chargeparklaw31.MoneyScale", spec := "moneyScale", unfollowed := true, recurses := true, apart := false, narrowed := true }
def MoneyScaleUptoSaid : Prop := moneyScaleUptoRow.holds Try.pinned (OpenSpec.upto moneyScaleSpec)

end Rows
end Go.Proofs.Ytahpoikbnjhkgaa
