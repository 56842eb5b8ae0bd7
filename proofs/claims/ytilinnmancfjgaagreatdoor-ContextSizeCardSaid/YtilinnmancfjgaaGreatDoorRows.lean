/-
  NARROWER THAN 'FOR EVERY INPUT', by the rows' own cells (each row's printed sentence says how): ContextSize: laid.
  DERIVED. THE GIVEN ROWS OF THIS SEAT. 1 by the template 'for every input the law returns true; each argument reads behind the call as it read before'; 0 by the template 'total and deterministic' (their statements: YtilinnmancfjgaaGreatDoorTotals.lean).
  GIVEN WITH THE SEED: the statements are not yours to turn. If you find one false, say at which input.
  Laid BY PROGRAM, IN A SANDBOX (cutbox-rows.mjs): the forced cells as the released guide's own fill.sh prints them over the translation b4f9cfbb738f5bb9… (all of the seat's roots in one cut). By AI agents, Wed Nov 11 2026. No macro, syntax, notation, axiom, sorry.
-/
import Derived.Test.YtilinnmancfjgaaGreatDoorChecked
import GoSem.Claim
import GoSem.ClaimJoined
import GoSem.ClaimMapViews
import Derived.JoinedTies
import Derived.KernelRfl
namespace Go.Proofs.YtilinnmancfjgaaGreatDoor
/- THE CELL 'sum', in the pinned program and in every row, IS THE sha256 OF THE DUMP (.gsa) THAT YtilinnmancfjgaaGreatDoorProg.lean LOADS. Nothing in Lean hashes anything: it is a label: what it is worth is what the hold of that sum in a sandbox is worth. -/
noncomputable def Tryz.pinned : Pinned := { name := "ytilinnmancfjgaagreatdoor", sum := "b4f9cfbb738f5bb91c9df68da9aac24e99b3df3fa7497c703127e12929c0bb12", checked := Tryz.checked }
namespace Rows
def none {H : Type} : Left H := { results := [], args := [] }

/- WHAT THE LISTED PACKAGE-LEVEL VARIABLES READ AS WHEN THE CALL BEGINS. Each datum BY PROGRAM (the guide's laid-datum.mjs) off the statement by which the dump's own 'gosem.cut.vars' lays the variable. In a bare row this is a premise. The card (YtilinnmancfjgaaGreatDoorCards.lean) ties it to the program's text. -/
def laid_broadside_rules_boxes {H : Type} : DataW H := .agg [.lit (.string [116, 111, 112, 45, 108, 101, 102, 116, 45, 99, 111, 114, 110, 101, 114]), .lit (.string [116, 111, 112, 45, 108, 101, 102, 116]), .lit (.string [116, 111, 112, 45, 99, 101, 110, 116, 101, 114]), .lit (.string [116, 111, 112, 45, 114, 105, 103, 104, 116]), .lit (.string [116, 111, 112, 45, 114, 105, 103, 104, 116, 45, 99, 111, 114, 110, 101, 114]), .lit (.string [114, 105, 103, 104, 116, 45, 116, 111, 112]), .lit (.string [114, 105, 103, 104, 116, 45, 109, 105, 100, 100, 108, 101]), .lit (.string [114, 105, 103, 104, 116, 45, 98, 111, 116, 116, 111, 109]), .lit (.string [98, 111, 116, 116, 111, 109, 45, 114, 105, 103, 104, 116, 45, 99, 111, 114, 110, 101, 114]), .lit (.string [98, 111, 116, 116, 111, 109, 45, 114, 105, 103, 104, 116]), .lit (.string [98, 111, 116, 116, 111, 109, 45, 99, 101, 110, 116, 101, 114]), .lit (.string [98, 111, 116, 116, 111, 109, 45, 108, 101, 102, 116]), .lit (.string [98, 111, 116, 116, 111, 109, 45, 108, 101, 102, 116, 45, 99, 111, 114, 110, 101, 114]), .lit (.string [108, 101, 102, 116, 45, 98, 111, 116, 116, 111, 109]), .lit (.string [108, 101, 102, 116, 45, 109, 105, 100, 100, 108, 101]), .lit (.string [108, 101, 102, 116, 45, 116, 111, 112])]

/-- 'broadsidelaw17.ContextSize': WHATEVER THE INPUT: true; the input reads as it did. -/
def contextSizeSpec : ChangeSpec := { name := "contextSize", fn := fun _ => fun
  | [d] => { results := [.lit (.bool true)], args := [d] }
  | _ => none }
def contextSizeRow : OpenClaim := { program := "ytilinnmancfjgaagreatdoor", sum := "b4f9cfbb738f5bb91c9df68da9aac24e99b3df3fa7497c703127e12929c0bb12", func := "broadside/broadsidelaw17.ContextSize", spec := "contextSize", unfollowed := true, recurses := true, named := ["broadside/rules.boxes"], apart := false, laid := [("broadside/rules.boxes", laid_broadside_rules_boxes)] }
def ContextSizeSaid : Prop := contextSizeRow.holds Tryz.pinned (OpenSpec.ofChange contextSizeSpec)

/-- ITS FALSE NEIGHBOUR: 'it returns false'. Refute it at one input. -/
def contextSizeWrong : ChangeSpec := { name := "contextSize", fn := fun _ => fun
  | [d] => { results := [.lit (.bool false)], args := [d] }
  | _ => none }
def ContextSizeWrongFalsely : Prop := contextSizeRow.holds Tryz.pinned (OpenSpec.ofChange contextSizeWrong)

/- THE SECOND FORM. 'bulk': how many values and letters a reading holds, each counted each time it is reached (what is shared counts as often as it is met; a slice's spare places count too). A statement '..UptoSaid' is the law's where the arguments, and the package variables that the reading takes, are together of bulk at most 1048576: NARROWER than '..Said'. Prove '..Said' where nothing that the law and all that it calls make is longer than what came in: it says more and counts as full. Else prove '..UptoSaid'. A law counts once. -/
mutual
def uptoBulk {H : Type} : DataW H → Nat
  | .lit (.string bytes) => bytes.length + 1
  | .lit _ => 1
  | .nil => 1
  | .ptr d => uptoBulk d + 1
  | .slice elems spare => uptoBulkAll elems + uptoBulkAll spare + 1
  | .agg parts => uptoBulkAll parts + 1
  | .iface _ d => uptoBulk d + 1
  | .map entries => uptoBulkEntries entries + 1
  | .held _ => 1
def uptoBulkAll {H : Type} : List (DataW H) → Nat
  | [] => 0
  | d :: r => uptoBulk d + uptoBulkAll r
def uptoBulkEntries {H : Type} : List (Lit × DataW H) → Nat
  | [] => 0
  | x :: r => uptoBulkEntry x + uptoBulkEntries r
def uptoBulkEntry {H : Type} : Lit × DataW H → Nat
  | (.string bytes, d) => bytes.length + uptoBulk d + 1
  | (_, d) => uptoBulk d + 1
 end
def uptoSmall : (H : Type) → List (DataW H) → Bool := fun _ ds => decide (uptoBulkAll ds ≤ 1048576)
def OpenSpec.upto (s : _root_.Go.ChangeSpec) : _root_.Go.OpenSpec := { _root_.Go.OpenSpec.ofChange s with cond := some uptoSmall }

/-- 'broadsidelaw17.ContextSize', WHERE WHAT IT READS IS OF BULK AT MOST 1048576: true; the input reads as it did. -/
def contextSizeUptoRow : OpenClaim := { program := "ytilinnmancfjgaagreatdoor", sum := "b4f9cfbb738f5bb91c9df68da9aac24e99b3df3fa7497c703127e12929c0bb12", func := "broadside/broadsidelaw17.ContextSize", spec := "contextSize", unfollowed := true, recurses := true, named := ["broadside/rules.boxes"], apart := false, laid := [("broadside/rules.boxes", laid_broadside_rules_boxes)], narrowed := true }
def ContextSizeUptoSaid : Prop := contextSizeUptoRow.holds Tryz.pinned (OpenSpec.upto contextSizeSpec)

end Rows
end Go.Proofs.YtilinnmancfjgaaGreatDoor
