/-
  NARROWER THAN 'FOR EVERY INPUT', by the rows' own cells (each row's printed sentence says how): TopTwoControllers: laid.
  DERIVED. THE GIVEN ROWS OF THIS SEAT. 1 by the template 'for every input the law returns true; each argument reads behind the call as it read before'; 0 by the template 'total and deterministic' (their statements: YtkbbapefgifagaaGreatDoorTotals.lean).
  GIVEN WITH THE SEED: the statements are not yours to turn. If you find one false, say at which input.
  Laid BY PROGRAM, IN A SANDBOX (cutbox-rows.mjs): the forced cells as the released guide's own fill.sh prints them over the translation f75621b1587de563… (all of the seat's roots in one cut). By AI agents, Wed Nov 11 2026. No macro, syntax, notation, axiom, sorry.
-/
import Derived.Test.YtkbbapefgifagaaGreatDoorChecked
import GoSem.Claim
import GoSem.ClaimJoined
import GoSem.ClaimMapViews
import Derived.JoinedTies
import Derived.KernelRfl
namespace Go.Proofs.YtkbbapefgifagaaGreatDoor
/- THE CELL 'sum', in the pinned program and in every row, IS THE sha256 OF THE DUMP (.gsa) THAT YtkbbapefgifagaaGreatDoorProg.lean LOADS. Nothing in Lean hashes anything: it is a label: what it is worth is what the hold of that sum in a sandbox is worth. -/
noncomputable def Tryz.pinned : Pinned := { name := "ytkbbapefgifagaagreatdoor", sum := "f75621b1587de5632b8e1a0adcd725f78fc5f8e2b4d2d41e7240353ef17ff7fa", checked := Tryz.checked }
namespace Rows
def none {H : Type} : Left H := { results := [], args := [] }

/- WHAT THE LISTED PACKAGE-LEVEL VARIABLES READ AS WHEN THE CALL BEGINS. Each datum BY PROGRAM (the guide's laid-datum.mjs) off the statement by which the dump's own 'gosem.cut.vars' lays the variable. In a bare row this is a premise. The card (YtkbbapefgifagaaGreatDoorCards.lean) ties it to the program's text. -/
def laid_chargepark_charger_afterwards {H : Type} : DataW H := .agg [.agg [.lit (.int .i64 (-1)), .lit (.int .i64 (-1)), .lit (.int .i64 (-1)), .lit (.int .i64 (-1)), .lit (.int .i64 (-1)), .lit (.int .i64 (-1))], .agg [.lit (.int .i64 1), .lit (.int .i64 (-1)), .lit (.int .i64 (-1)), .lit (.int .i64 (-1)), .lit (.int .i64 (-1)), .lit (.int .i64 (-1))], .agg [.lit (.int .i64 (-1)), .lit (.int .i64 0), .lit (.int .i64 (-1)), .lit (.int .i64 (-1)), .lit (.int .i64 (-1)), .lit (.int .i64 (-3))], .agg [.lit (.int .i64 (-1)), .lit (.int .i64 2), .lit (.int .i64 (-1)), .lit (.int .i64 (-1)), .lit (.int .i64 (-1)), .lit (.int .i64 (-1))], .agg [.lit (.int .i64 (-1)), .lit (.int .i64 (-1)), .lit (.int .i64 (-3)), .lit (.int .i64 (-1)), .lit (.int .i64 (-1)), .lit (.int .i64 (-1))], .agg [.lit (.int .i64 (-1)), .lit (.int .i64 (-1)), .lit (.int .i64 (-1)), .lit (.int .i64 4), .lit (.int .i64 (-1)), .lit (.int .i64 (-1))], .agg [.lit (.int .i64 (-1)), .lit (.int .i64 (-1)), .lit (.int .i64 (-1)), .lit (.int .i64 (-1)), .lit (.int .i64 (-3)), .lit (.int .i64 (-1))], .agg [.lit (.int .i64 (-2)), .lit (.int .i64 (-2)), .lit (.int .i64 (-2)), .lit (.int .i64 (-2)), .lit (.int .i64 (-2)), .lit (.int .i64 (-2))], .agg [.lit (.int .i64 (-2)), .lit (.int .i64 (-2)), .lit (.int .i64 (-2)), .lit (.int .i64 (-2)), .lit (.int .i64 (-2)), .lit (.int .i64 (-2))], .agg [.lit (.int .i64 0), .lit (.int .i64 1), .lit (.int .i64 1), .lit (.int .i64 1), .lit (.int .i64 1), .lit (.int .i64 (-3))]]
def laid_chargepark_ramp_happens {H : Type} : DataW H := .agg [.agg [.agg [.lit (.int .i64 1), .lit (.int .i64 1)], .agg [.lit (.int .i64 1), .lit (.int .i64 0)]], .agg [.agg [.lit (.int .i64 2), .lit (.int .i64 2)], .agg [.lit (.int .i64 3), .lit (.int .i64 3)]]]

/-- 'chargeparktop.TopTwoControllers': WHATEVER THE INPUT: true; the input reads as it did. -/
def topTwoControllersSpec : ChangeSpec := { name := "topTwoControllers", fn := fun _ => fun
  | [d1, d2, d3, d4] => { results := [.lit (.bool true)], args := [d1, d2, d3, d4] }
  | _ => none }
def topTwoControllersRow : OpenClaim := { program := "ytkbbapefgifagaagreatdoor", sum := "f75621b1587de5632b8e1a0adcd725f78fc5f8e2b4d2d41e7240353ef17ff7fa", func := "chargepark/chargeparktop.TopTwoControllers", spec := "topTwoControllers", unfollowed := true, recurses := true, named := ["chargepark/charger.afterwards", "chargepark/ramp.happens"], apart := false, laid := [("chargepark/charger.afterwards", laid_chargepark_charger_afterwards), ("chargepark/ramp.happens", laid_chargepark_ramp_happens)] }
def TopTwoControllersSaid : Prop := topTwoControllersRow.holds Tryz.pinned (OpenSpec.ofChange topTwoControllersSpec)

/-- ITS FALSE NEIGHBOUR: 'it returns false'. Refute it at one input. -/
def topTwoControllersWrong : ChangeSpec := { name := "topTwoControllers", fn := fun _ => fun
  | [d1, d2, d3, d4] => { results := [.lit (.bool false)], args := [d1, d2, d3, d4] }
  | _ => none }
def TopTwoControllersWrongFalsely : Prop := topTwoControllersRow.holds Tryz.pinned (OpenSpec.ofChange topTwoControllersWrong)

/- THE SECOND FORM. 'bulk': how many values and letters a reading holds, each counted each time it is reached (what is shared counts as often as it is met; a slice's spare places count too). A statement '..UptoSaid' is the law's where the arguments, and the package variables that the reading takes, are together of bulk at most 1048576: NARROWER than '..Said'. Prove '..Said' where nothing that the law and all that it calls make is longer than what came in: it says more and counts as full. Else prove '..UptoSaid'. A law counts once. -/
mutual
def uptoBulk {H : Type} : DataW H → Nat
  | .lit (.string bytes) => bytes.length + 1
  | .lit _ => 1
  | .nil => 1
  | .ptr d => uptoBulk d + 1
  | .slice elems spare => uptoBulkAll elems + uptoBulkAll spare + 1
  | .agg parts => uptoBulkAll parts + 1
  | .iface _ d => uptoBulk d + 1
  | .map entries => uptoBulkEntries entries + 1
  | .held _ => 1
def uptoBulkAll {H : Type} : List (DataW H) → Nat
  | [] => 0
  | d :: r => uptoBulk d + uptoBulkAll r
def uptoBulkEntries {H : Type} : List (Lit × DataW H) → Nat
  | [] => 0
  | x :: r => uptoBulkEntry x + uptoBulkEntries r
def uptoBulkEntry {H : Type} : Lit × DataW H → Nat
  | (.string bytes, d) => bytes.length + uptoBulk d + 1
  | (_, d) => uptoBulk d + 1
 end
def uptoSmall : (H : Type) → List (DataW H) → Bool := fun _ ds => decide (uptoBulkAll ds ≤ 1048576)
def OpenSpec.upto (s : _root_.Go.ChangeSpec) : _root_.Go.OpenSpec := { _root_.Go.OpenSpec.ofChange s with cond := some uptoSmall }

/-- 'chargeparktop.TopTwoControllers', WHERE WHAT IT READS IS OF BULK AT MOST 1048576: true; the input reads as it did. -/
def topTwoControllersUptoRow : OpenClaim := { program := "ytkbbapefgifagaagreatdoor", sum := "f75621b1587de5632b8e1a0adcd725f78fc5f8e2b4d2d41e7240353ef17ff7fa", func := "chargepark/chargeparktop.TopTwoControllers", spec := "topTwoControllers", unfollowed := true, recurses := true, named := ["chargepark/charger.afterwards", "chargepark/ramp.happens"], apart := false, laid := [("chargepark/charger.afterwards", laid_chargepark_charger_afterwards), ("chargepark/ramp.happens", laid_chargepark_ramp_happens)], narrowed := true }
def TopTwoControllersUptoSaid : Prop := topTwoControllersUptoRow.holds Tryz.pinned (OpenSpec.upto topTwoControllersSpec)

end Rows
end Go.Proofs.YtkbbapefgifagaaGreatDoor
