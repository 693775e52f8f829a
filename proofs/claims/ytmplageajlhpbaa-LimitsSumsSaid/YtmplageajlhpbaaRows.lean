/-
  No cell of these rows narrows 'for every input' (looked for: loops, veiled, ifaces, maps, wideKeys, modest, calm, conditions, laid).
  DERIVED. THE GIVEN ROWS OF THIS SEAT. 7 by the template 'for every input the law returns true; each argument reads behind the call as it read before'; 0 by the template 'total and deterministic' (their statements: YtmplageajlhpbaaTotals.lean).
  GIVEN WITH THE SEED: the statements are not yours to turn. If you find one false, say at which input.
  Laid BY PROGRAM, IN A SANDBOX (cutbox-rows.mjs): the forced cells as the released guide's own fill.sh prints them over the translation acd3234a4951a901… (all of the seat's roots in one cut). By AI agents, Wed Nov 11 2026. No macro, syntax, notation, axiom, sorry.
-/
import Derived.Test.YtmplageajlhpbaaChecked
import GoSem.Claim
import GoSem.ClaimJoined
import GoSem.ClaimMapViews
import Derived.JoinedTies
import Derived.KernelRfl
namespace Go.Proofs.Ytmplageajlhpbaa
/- THE CELL 'sum', in the pinned program and in every row, IS THE sha256 OF THE DUMP (.gsa) THAT YtmplageajlhpbaaProg.lean LOADS. Nothing in Lean hashes anything: it is a label: what it is worth is what the hold of that sum in a sandbox is worth. -/
noncomputable def Try.pinned : Pinned := { name := "ytmplageajlhpbaa", sum := "acd3234a4951a901492ecfda1eaa1734f92ec251c7a230691bb7f62df1860f9f", checked := Try.checked }
namespace Rows
def none {H : Type} : Left H := { results := [], args := [] }

/-- 'chargeparklaw09.LimitsMatchesReference': WHATEVER THE INPUT: true; the input reads as it did. -/
def limitsMatchesReferenceSpec : ChangeSpec := { name := "limitsMatchesReference", fn := fun _ => fun
  | [d1, d2, d3] => { results := [.lit (.bool true)], args := [d1, d2, d3] }
  | _ => none }
def limitsMatchesReferenceRow : OpenClaim := { program := "ytmplageajlhpbaa", sum := "acd3234a4951a901492ecfda1eaa1734f92ec251c7a230691bb7f62df1860f9f", func := "chargepark/chargeparklaw09.LimitsMatchesReference", spec := "limitsMatchesReference", unfollowed := true, recurses := true, apart := false }
def LimitsMatchesReferenceSaid : Prop := limitsMatchesReferenceRow.holds Try.pinned (OpenSpec.ofChange limitsMatchesReferenceSpec)

/-- ITS FALSE NEIGHBOUR: 'it returns false'. Refute it at one input. -/
def limitsMatchesReferenceWrong : ChangeSpec := { name := "limitsMatchesReference", fn := fun _ => fun
  | [d1, d2, d3] => { results := [.lit (.bool false)], args := [d1, d2, d3] }
  | _ => none }
def LimitsMatchesReferenceWrongFalsely : Prop := limitsMatchesReferenceRow.holds Try.pinned (OpenSpec.ofChange limitsMatchesReferenceWrong)

/-- 'chargeparklaw09.LimitsRows': WHATEVER THE INPUT: true; the input reads as it did. -/
def limitsRowsSpec : ChangeSpec := { name := "limitsRows", fn := fun _ => fun
  | [d1, d2] => { results := [.lit (.bool true)], args := [d1, d2] }
  | _ => none }
def limitsRowsRow : OpenClaim := { program := "ytmplageajlhpbaa", sum := "acd3234a4951a901492ecfda1eaa1734f92ec251c7a230691bb7f62df1860f9f", func := "chargepark/chargeparklaw09.LimitsRows", spec := "limitsRows", unfollowed := true, recurses := true, apart := false }
def LimitsRowsSaid : Prop := limitsRowsRow.holds Try.pinned (OpenSpec.ofChange limitsRowsSpec)

/-- ITS FALSE NEIGHBOUR: 'it returns false'. Refute it at one input. -/
def limitsRowsWrong : ChangeSpec := { name := "limitsRows", fn := fun _ => fun
  | [d1, d2] => { results := [.lit (.bool false)], args := [d1, d2] }
  | _ => none }
def LimitsRowsWrongFalsely : Prop := limitsRowsRow.holds Try.pinned (OpenSpec.ofChange limitsRowsWrong)

/-- 'chargeparklaw09.LimitsLess': WHATEVER THE INPUT: true; the input reads as it did. -/
def limitsLessSpec : ChangeSpec := { name := "limitsLess", fn := fun _ => fun
  | [d1, d2, d3] => { results := [.lit (.bool true)], args := [d1, d2, d3] }
  | _ => none }
def limitsLessRow : OpenClaim := { program := "ytmplageajlhpbaa", sum := "acd3234a4951a901492ecfda1eaa1734f92ec251c7a230691bb7f62df1860f9f", func := "chargepark/chargeparklaw09.LimitsLess", spec := "limitsLess", unfollowed := true, recurses := true, apart := false }
def LimitsLessSaid : Prop := limitsLessRow.holds Try.pinned (OpenSpec.ofChange limitsLessSpec)

/-- ITS FALSE NEIGHBOUR: 'it returns false'. Refute it at one input. -/
def limitsLessWrong : ChangeSpec := { name := "limitsLess", fn := fun _ => fun
  | [d1, d2, d3] => { results := [.lit (.bool false)], args := [d1, d2, d3] }
  | _ => none }
def LimitsLessWrongFalsely : Prop := limitsLessRow.holds Try.pinned (OpenSpec.ofChange limitsLessWrong)

/-- 'chargeparklaw09.LimitsFirst': WHATEVER THE INPUT: true; the input reads as it did. -/
def limitsFirstSpec : ChangeSpec := { name := "limitsFirst", fn := fun _ => fun
  | [d1, d2] => { results := [.lit (.bool true)], args := [d1, d2] }
  | _ => none }
def limitsFirstRow : OpenClaim := { program := "ytmplageajlhpbaa", sum := "acd3234a4951a901492ecfda1eaa1734f92ec251c7a230691bb7f62df1860f9f", func := "chargepark/chargeparklaw09.LimitsFirst", spec := "limitsFirst", unfollowed := true, recurses := true, apart := false }
def LimitsFirstSaid : Prop := limitsFirstRow.holds Try.pinned (OpenSpec.ofChange limitsFirstSpec)

/-- ITS FALSE NEIGHBOUR: 'it returns false'. Refute it at one input. -/
def limitsFirstWrong : ChangeSpec := { name := "limitsFirst", fn := fun _ => fun
  | [d1, d2] => { results := [.lit (.bool false)], args := [d1, d2] }
  | _ => none }
def LimitsFirstWrongFalsely : Prop := limitsFirstRow.holds Try.pinned (OpenSpec.ofChange limitsFirstWrong)

/-- 'chargeparklaw09.LimitsDerating': WHATEVER THE INPUT: true; the input reads as it did. -/
def limitsDeratingSpec : ChangeSpec := { name := "limitsDerating", fn := fun _ => fun
  | [d1, d2, d3] => { results := [.lit (.bool true)], args := [d1, d2, d3] }
  | _ => none }
def limitsDeratingRow : OpenClaim := { program := "ytmplageajlhpbaa", sum := "acd3234a4951a901492ecfda1eaa1734f92ec251c7a230691bb7f62df1860f9f", func := "chargepark/chargeparklaw09.LimitsDerating", spec := "limitsDerating", unfollowed := true, recurses := true, apart := false }
def LimitsDeratingSaid : Prop := limitsDeratingRow.holds Try.pinned (OpenSpec.ofChange limitsDeratingSpec)

/-- ITS FALSE NEIGHBOUR: 'it returns false'. Refute it at one input. -/
def limitsDeratingWrong : ChangeSpec := { name := "limitsDerating", fn := fun _ => fun
  | [d1, d2, d3] => { results := [.lit (.bool false)], args := [d1, d2, d3] }
  | _ => none }
def LimitsDeratingWrongFalsely : Prop := limitsDeratingRow.holds Try.pinned (OpenSpec.ofChange limitsDeratingWrong)

/-- 'chargeparklaw09.LimitsSums': WHATEVER THE INPUT: true; the input reads as it did. -/
def limitsSumsSpec : ChangeSpec := { name := "limitsSums", fn := fun _ => fun
  | [d1, d2, d3] => { results := [.lit (.bool true)], args := [d1, d2, d3] }
  | _ => none }
def limitsSumsRow : OpenClaim := { program := "ytmplageajlhpbaa", sum := "acd3234a4951a901492ecfda1eaa1734f92ec251c7a230691bb7f62df1860f9f", func := "chargepark/chargeparklaw09.LimitsSums", spec := "limitsSums", unfollowed := true, recurses := true, apart := false }
def LimitsSumsSaid : Prop := limitsSumsRow.holds Try.pinned (OpenSpec.ofChange limitsSumsSpec)

/-- ITS FALSE NEIGHBOUR: 'it returns false'. Refute it at one input. -/
def limitsSumsWrong : ChangeSpec := { name := "limitsSums", fn := fun _ => fun
  | [d1, d2, d3] => { results := [.lit (.bool false)], args := [d1, d2, d3] }
  | _ => none }
def LimitsSumsWrongFalsely : Prop := limitsSumsRow.holds Try.pinned (OpenSpec.ofChange limitsSumsWrong)

/-- 'chargeparklaw09.LimitsHarmless': WHATEVER THE INPUT: true; the input reads as it did. -/
def limitsHarmlessSpec : ChangeSpec := { name := "limitsHarmless", fn := fun _ => fun
  | [d1, d2, d3] => { results := [.lit (.bool true)], args := [d1, d2, d3] }
  | _ => none }
def limitsHarmlessRow : OpenClaim := { program := "ytmplageajlhpbaa", sum := "acd3234a4951a901492ecfda1eaa1734f92ec251c7a230691bb7f62df1860f9f", func := "chargepark/chargeparklaw09.LimitsHarmless", spec := "limitsHarmless", unfollowed := true, recurses := true, apart := false }
def LimitsHarmlessSaid : Prop := limitsHarmlessRow.holds Try.pinned (OpenSpec.ofChange limitsHarmlessSpec)

/-- ITS FALSE NEIGHBOUR: 'it returns false'. Refute it at one input. -/
def limitsHarmlessWrong : ChangeSpec := { name := "limitsHarmless", fn := fun _ => fun
  | [d1, d2, d3] => { results := [.lit (.bool false)], args := [d1, d2, d3] }
  | _ => none }
def LimitsHarmlessWrongFalsely : Prop := limitsHarmlessRow.holds Try.pinned (OpenSpec.ofChange limitsHarmlessWrong)

/- THE SECOND FORM. 'bulk': how many values and letters a reading holds, each counted each time it is reached (what is shared counts as often as it is met; a slice's spare places count too). A statement '..UptoSaid' is the law's where the arguments, and the package variables that the reading takes, are together of bulk at most 1048576: NARROWER than '..Said'. Prove '..Said' where nothing that the law and all that it calls make is longer than what came in: it says more and counts as full. Else prove '..UptoSaid'. A law counts once. -/
mutual
def uptoBulk {H : Type} : DataW H → Nat
  | .lit (.string bytes) => bytes.length + 1
  | .lit _ => 1
  | .nil => 1
  | .ptr d => uptoBulk d + 1
  | .slice elems spare => uptoBulkAll elems + uptoBulkAll spare + 1
  | .agg parts => uptoBulkAll parts + 1
  | .iface _ d => uptoBulk d + 1
  | .map entries => uptoBulkEntries entries + 1
  | .held _ => 1
def uptoBulkAll {H : Type} : List (DataW H) → Nat
  | [] => 0
  | d :: r => uptoBulk d + uptoBulkAll r
def uptoBulkEntries {H : Type} : List (Lit × DataW H) → Nat
  | [] => 0
  | x :: r => uptoBulkEntry x + uptoBulkEntries r
def uptoBulkEntry {H : Type} : Lit × DataW H → Nat
  | (.string bytes, d) => bytes.length + uptoBulk d + 1
  | (_, d) => uptoBulk d + 1
 end
def uptoSmall : (H : Type) → List (DataW H) → Bool := fun _ ds => decide (uptoBulkAll ds ≤ 1048576)
def OpenSpec.upto (s : _root_.Go.ChangeSpec) : _root_.Go.OpenSpec := { _root_.Go.OpenSpec.ofChange s with cond := some uptoSmall }

/-- 'chargeparklaw09.LimitsMatchesReference', WHERE WHAT IT READS IS OF BULK AT MOST 1048576: true; the input reads as it did. -/
def limitsMatchesReferenceUptoRow : OpenClaim := { program := "ytmplageajlhpbaa", sum := "acd3234a4951a901492ecfda1eaa1734f92ec251c7a230691bb7f62df1860f9f", func := "chargepark/chargeparklaw09.LimitsMatchesReference", spec := "limitsMatchesReference", unfollowed := true, recurses := true, apart := false, narrowed := true }
def LimitsMatchesReferenceUptoSaid : Prop := limitsMatchesReferenceUptoRow.holds Try.pinned (OpenSpec.upto limitsMatchesReferenceSpec)

/-- 'chargeparklaw09.LimitsRows', WHERE WHAT IT READS IS OF BULK AT MOST 1048576: true; the input reads as it did. -/
def limitsRowsUptoRow : OpenClaim := { program := "ytmplageajlhpbaa", sum := "acd3234a4951a901492ecfda1eaa1734f92ec251c7a230691bb7f62df1860f9f", func := "chargepark/chargeparklaw09.LimitsRows", spec := "limitsRows", unfollowed := true, recurses := true, apart := false, narrowed := true }
def LimitsRowsUptoSaid : Prop := limitsRowsUptoRow.holds Try.pinned (OpenSpec.upto limitsRowsSpec)

/-- 'chargeparklaw09.LimitsLess', WHERE WHAT IT READS IS OF BULK AT MOST 1048576: true; the input reads as it did. -/
def limitsLessUptoRow : OpenClaim := { program := "ytmplageajlhpbaa", sum := "acd3234a4951a901492ecfda1eaa1734f92ec251c7a230691bb7f62df1860f9f", func := "chargepark/chargeparklaw09.LimitsLess", spec := "limitsLess", unfollowed := true, recurses := true, apart := false, narrowed := true }
def LimitsLessUptoSaid : Prop := limitsLessUptoRow.holds Try.pinned (OpenSpec.upto limitsLessSpec)

/-- 'chargeparklaw09.LimitsFirst', WHERE WHAT IT READS IS OF BULK AT MOST 1048576: true; the input reads as it did. -/
def limitsFirstUptoRow : OpenClaim := { program := "ytmplageajlhpbaa", sum := "acd3234a4951a901492ecfda1eaa1734f92ec251c7a230691bb7f62df1860f9f", func := "chargepark/chargeparklaw09.LimitsFirst", spec := "limitsFirst", unfollowed := true, recurses := true, apart := false, narrowed := true }
def LimitsFirstUptoSaid : Prop := limitsFirstUptoRow.holds Try.pinned (OpenSpec.upto limitsFirstSpec)

/-- 'chargeparklaw09.LimitsDerating', WHERE WHAT IT READS IS OF BULK AT MOST 1048576: true; the input reads as it did. -/
def limitsDeratingUptoRow : OpenClaim := { program := "ytmplageajlhpbaa", sum := "acd3234a4951a901492ecfda1eaa1734f92ec251c7a230691bb7f62df1860f9f", func := "chargepark/chargeparklaw09.LimitsDerating", spec := "limitsDerating", unfollowed := true, recurses := true, apart := false, narrowed := true }
def LimitsDeratingUptoSaid : Prop := limitsDeratingUptoRow.holds Try.pinned (OpenSpec.upto limitsDeratingSpec)

/-- 'chargeparklaw09.LimitsSums', WHERE WHAT IT READS IS OF BULK AT MOST 1048576: true; the input reads as it did. -/
def limitsSumsUptoRow : OpenClaim := { program := "ytmplageajlhpbaa", sum := "acd3234a4951a901492ecfda1eaa1734f92ec251c7a230691bb7f62df1860f9f", func := "chargepark/chargeparklaw09.LimitsSums", spec := "limitsSums", unfollowed := true, recurses := true, apart := false, narrowed := true }
def LimitsSumsUptoSaid : Prop := limitsSumsUptoRow.holds Try.pinned (OpenSpec.upto limitsSumsSpec)

/-- 'chargeparklaw09.LimitsHarmless', WHERE WHAT IT READS IS OF BULK AT MOST 1048576: true; the input reads as it did. -/
def limitsHarmlessUptoRow : OpenClaim := { program := "ytmplageajlhpbaa", sum := "acd3234a4951a901492ecfda1eaa1734f92ec251c7a230691bb7f62df1860f9f", func := "chargepark/chargeparklaw09.LimitsHarmless", spec := "limitsHarmless", unfollowed := true, recurses := true, apart := false, narrowed := true }
def LimitsHarmlessUptoSaid : Prop := limitsHarmlessUptoRow.holds Try.pinned (OpenSpec.upto limitsHarmlessSpec)

end Rows
end Go.Proofs.Ytmplageajlhpbaa
