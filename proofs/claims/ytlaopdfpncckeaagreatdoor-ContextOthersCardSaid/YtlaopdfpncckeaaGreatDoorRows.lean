/-
  NARROWER THAN 'FOR EVERY INPUT', by the rows' own cells (each row's printed sentence says how): ContextSize: laid · ContextPage: laid · ContextOthers: laid · ContextMargins: laid.
  DERIVED. THE GIVEN ROWS OF THIS SEAT. 4 by the template 'for every input the law returns true; each argument reads behind the call as it read before'; 0 by the template 'total and deterministic' (their statements: YtlaopdfpncckeaaGreatDoorTotals.lean).
  GIVEN WITH THE SEED: the statements are not yours to turn. If you find one false, say at which input.
  Laid BY PROGRAM, IN A SANDBOX (cutbox-rows.mjs): the forced cells as the released guide's own fill.sh prints them over the translation 1d8b4bb1b792f387… (all of the seat's roots in one cut). By AI agents, Wed Nov 11 2026. No macro, syntax, notation, axiom, sorry.
-/
import Derived.Test.YtlaopdfpncckeaaGreatDoorChecked
import GoSem.Claim
import GoSem.ClaimJoined
import GoSem.ClaimMapViews
import Derived.JoinedTies
import Derived.KernelRfl
namespace Go.Proofs.YtlaopdfpncckeaaGreatDoor
/- THE CELL 'sum', in the pinned program and in every row, IS THE sha256 OF THE DUMP (.gsa) THAT YtlaopdfpncckeaaGreatDoorProg.lean LOADS. Nothing in Lean hashes anything: it is a label: what it is worth is what the hold of that sum in a sandbox is worth. -/
noncomputable def Tryz.pinned : Pinned := { name := "ytlaopdfpncckeaagreatdoor", sum := "1d8b4bb1b792f387e53632987a83240ecc6152d36f98aa01ab7c68442de30f58", checked := Tryz.checked }
namespace Rows
def none {H : Type} : Left H := { results := [], args := [] }

/- WHAT THE LISTED PACKAGE-LEVEL VARIABLES READ AS WHEN THE CALL BEGINS. Each datum BY PROGRAM (the guide's laid-datum.mjs) off the statement by which the dump's own 'gosem.cut.vars' lays the variable. In a bare row this is a premise. The card (YtlaopdfpncckeaaGreatDoorCards.lean) ties it to the program's text. -/
def laid_broadside_rules_boxes {H : Type} : DataW H := .agg [.lit (.string [116, 111, 112, 45, 108, 101, 102, 116, 45, 99, 111, 114, 110, 101, 114]), .lit (.string [116, 111, 112, 45, 108, 101, 102, 116]), .lit (.string [116, 111, 112, 45, 99, 101, 110, 116, 101, 114]), .lit (.string [116, 111, 112, 45, 114, 105, 103, 104, 116]), .lit (.string [116, 111, 112, 45, 114, 105, 103, 104, 116, 45, 99, 111, 114, 110, 101, 114]), .lit (.string [114, 105, 103, 104, 116, 45, 116, 111, 112]), .lit (.string [114, 105, 103, 104, 116, 45, 109, 105, 100, 100, 108, 101]), .lit (.string [114, 105, 103, 104, 116, 45, 98, 111, 116, 116, 111, 109]), .lit (.string [98, 111, 116, 116, 111, 109, 45, 114, 105, 103, 104, 116, 45, 99, 111, 114, 110, 101, 114]), .lit (.string [98, 111, 116, 116, 111, 109, 45, 114, 105, 103, 104, 116]), .lit (.string [98, 111, 116, 116, 111, 109, 45, 99, 101, 110, 116, 101, 114]), .lit (.string [98, 111, 116, 116, 111, 109, 45, 108, 101, 102, 116]), .lit (.string [98, 111, 116, 116, 111, 109, 45, 108, 101, 102, 116, 45, 99, 111, 114, 110, 101, 114]), .lit (.string [108, 101, 102, 116, 45, 98, 111, 116, 116, 111, 109]), .lit (.string [108, 101, 102, 116, 45, 109, 105, 100, 100, 108, 101]), .lit (.string [108, 101, 102, 116, 45, 116, 111, 112])]

/-- 'broadsidelaw17.ContextSize': WHATEVER THE INPUT: true; the input reads as it did. -/
def contextSizeSpec : ChangeSpec := { name := "contextSize", fn := fun _ => fun
  | [d] => { results := [.lit (.bool true)], args := [d] }
  | _ => none }
def contextSizeRow : OpenClaim := { program := "ytlaopdfpncckeaagreatdoor", sum := "1d8b4bb1b792f387e53632987a83240ecc6152d36f98aa01ab7c68442de30f58", func := "broadside/broadsidelaw17.ContextSize", spec := "contextSize", unfollowed := true, recurses := true, named := ["broadside/rules.boxes"], apart := false, laid := [("broadside/rules.boxes", laid_broadside_rules_boxes)] }
def ContextSizeSaid : Prop := contextSizeRow.holds Tryz.pinned (OpenSpec.ofChange contextSizeSpec)

/-- ITS FALSE NEIGHBOUR: 'it returns false'. Refute it at one input. -/
def contextSizeWrong : ChangeSpec := { name := "contextSize", fn := fun _ => fun
  | [d] => { results := [.lit (.bool false)], args := [d] }
  | _ => none }
def ContextSizeWrongFalsely : Prop := contextSizeRow.holds Tryz.pinned (OpenSpec.ofChange contextSizeWrong)

/-- 'broadsidelaw17.ContextPage': WHATEVER THE INPUT: true; the input reads as it did. -/
def contextPageSpec : ChangeSpec := { name := "contextPage", fn := fun _ => fun
  | [d1, d2] => { results := [.lit (.bool true)], args := [d1, d2] }
  | _ => none }
def contextPageRow : OpenClaim := { program := "ytlaopdfpncckeaagreatdoor", sum := "1d8b4bb1b792f387e53632987a83240ecc6152d36f98aa01ab7c68442de30f58", func := "broadside/broadsidelaw17.ContextPage", spec := "contextPage", unfollowed := true, recurses := true, named := ["broadside/rules.boxes"], apart := false, laid := [("broadside/rules.boxes", laid_broadside_rules_boxes)] }
def ContextPageSaid : Prop := contextPageRow.holds Tryz.pinned (OpenSpec.ofChange contextPageSpec)

/-- ITS FALSE NEIGHBOUR: 'it returns false'. Refute it at one input. -/
def contextPageWrong : ChangeSpec := { name := "contextPage", fn := fun _ => fun
  | [d1, d2] => { results := [.lit (.bool false)], args := [d1, d2] }
  | _ => none }
def ContextPageWrongFalsely : Prop := contextPageRow.holds Tryz.pinned (OpenSpec.ofChange contextPageWrong)

/-- 'broadsidelaw17.ContextOthers': WHATEVER THE INPUT: true; the input reads as it did. -/
def contextOthersSpec : ChangeSpec := { name := "contextOthers", fn := fun _ => fun
  | [d1, d2, d3] => { results := [.lit (.bool true)], args := [d1, d2, d3] }
  | _ => none }
def contextOthersRow : OpenClaim := { program := "ytlaopdfpncckeaagreatdoor", sum := "1d8b4bb1b792f387e53632987a83240ecc6152d36f98aa01ab7c68442de30f58", func := "broadside/broadsidelaw17.ContextOthers", spec := "contextOthers", unfollowed := true, recurses := true, named := ["broadside/rules.boxes"], apart := false, laid := [("broadside/rules.boxes", laid_broadside_rules_boxes)] }
def ContextOthersSaid : Prop := contextOthersRow.holds Tryz.pinned (OpenSpec.ofChange contextOthersSpec)

/-- ITS FALSE NEIGHBOUR: 'it returns false'. Refute it at one input. -/
def contextOthersWrong : ChangeSpec := { name := "contextOthers", fn := fun _ => fun
  | [d1, d2, d3] => { results := [.lit (.bool false)], args := [d1, d2, d3] }
  | _ => none }
def ContextOthersWrongFalsely : Prop := contextOthersRow.holds Tryz.pinned (OpenSpec.ofChange contextOthersWrong)

/-- 'broadsidelaw17.ContextMargins': WHATEVER THE INPUT: true; the input reads as it did. -/
def contextMarginsSpec : ChangeSpec := { name := "contextMargins", fn := fun _ => fun
  | [d1, d2, d3, d4, d5] => { results := [.lit (.bool true)], args := [d1, d2, d3, d4, d5] }
  | _ => none }
def contextMarginsRow : OpenClaim := { program := "ytlaopdfpncckeaagreatdoor", sum := "1d8b4bb1b792f387e53632987a83240ecc6152d36f98aa01ab7c68442de30f58", func := "broadside/broadsidelaw17.ContextMargins", spec := "contextMargins", unfollowed := true, recurses := true, named := ["broadside/rules.boxes"], apart := false, laid := [("broadside/rules.boxes", laid_broadside_rules_boxes)] }
def ContextMarginsSaid : Prop := contextMarginsRow.holds Tryz.pinned (OpenSpec.ofChange contextMarginsSpec)

/-- ITS FALSE NEIGHBOUR: 'it returns false'. Refute it at one input. -/
def contextMarginsWrong : ChangeSpec := { name := "contextMargins", fn := fun _ => fun
  | [d1, d2, d3, d4, d5] => { results := [.lit (.bool false)], args := [d1, d2, d3, d4, d5] }
  | _ => none }
def ContextMarginsWrongFalsely : Prop := contextMarginsRow.holds Tryz.pinned (OpenSpec.ofChange contextMarginsWrong)

/- THE SECOND FORM. 'bulk': how many values and letters a reading holds, each counted each time it is reached (what is shared counts as often as it is met; a slice's spare places count too). A statement '..UptoSaid' is the law's where the arguments, and the package variables that the reading takes, are together of bulk at most 1048576: NARROWER than '..Said'. Prove '..Said' where nothing that the law and all that it calls make is longer than what came in: it says more and counts as full. Else prove '..UptoSaid'. A law counts once. -/
mutual
def uptoBulk {H : Type} : DataW H → Nat
  | .lit (.string bytes) => bytes.length + 1
  | .lit _ => 1
  | .nil => 1
  | .ptr d => uptoBulk d + 1
  | .slice elems spare => uptoBulkAll elems + uptoBulkAll spare + 1
  | .agg parts => uptoBulkAll parts + 1
  | .iface _ d => uptoBulk d + 1
  | .map entries => uptoBulkEntries entries + 1
  | .held _ => 1
def uptoBulkAll {H : Type} : List (DataW H) → Nat
  | [] => 0
  | d :: r => uptoBulk d + uptoBulkAll r
def uptoBulkEntries {H : Type} : List (Lit × DataW H) → Nat
  | [] => 0
  | x :: r => uptoBulkEntry x + uptoBulkEntries r
def uptoBulkEntry {H : Type} : Lit × DataW H → Nat
  | (.string bytes, d) => bytes.length + uptoBulk d + 1
  | (_, d) => uptoBulk d + 1
 end
def uptoSmall : (H : Type) → List (DataW H) → Bool := fun _ ds => decide (uptoBulkAll ds ≤ 1048576)
def OpenSpec.upto (s : _root_.Go.ChangeSpec) : _root_.Go.OpenSpec := { _root_.Go.OpenSpec.ofChange s with cond := some uptoSmall }

/-- 'broadsidelaw17.ContextSize', WHERE WHAT IT READS IS OF BULK AT MOST 1048576: true; the input reads as it did. -/
def contextSizeUptoRow : OpenClaim := { program := "ytlaopdfpncckeaagreatdoor", sum := "1d8b4bb1b792f387e53632987a83240ecc6152d36f98aa01ab7c68442de30f58", func := "broadside/broadsidelaw17.ContextSize", spec := "contextSize", unfollowed := true, recurses := true, named := ["broadside/rules.boxes"], apart := false, laid := [("broadside/rules.boxes", laid_broadside_rules_boxes)], narrowed := true }
def ContextSizeUptoSaid : Prop := contextSizeUptoRow.holds Tryz.pinned (OpenSpec.upto contextSizeSpec)

/-- 'broadsidelaw17.ContextPage', WHERE WHAT IT READS IS OF BULK AT MOST 1048576: true; the input reads as it did. -/
def contextPageUptoRow : OpenClaim := { program := "ytlaopdfpncckeaagreatdoor", sum := "1d8b4bb1b792f387e53632987a83240ecc6152d36f98aa01ab7c68442de30f58", func := "broadside/broadsidelaw17.ContextPage", spec := "contextPage", unfollowed := true, recurses := true, named := ["broadside/rules.boxes"], apart := false, laid := [("broadside/rules.boxes", laid_broadside_rules_boxes)], narrowed := true }
def ContextPageUptoSaid : Prop := contextPageUptoRow.holds Tryz.pinned (OpenSpec.upto contextPageSpec)

/-- 'broadsidelaw17.ContextOthers', WHERE WHAT IT READS IS OF BULK AT MOST 1048576: true; the input reads as it did. -/
def contextOthersUptoRow : OpenClaim := { program := "ytlaopdfpncckeaagreatdoor", sum := "1d8b4bb1b792f387e53632987a83240ecc6152d36f98aa01ab7c68442de30f58", func := "broadside/broadsidelaw17.ContextOthers", spec := "contextOthers", unfollowed := true, recurses := true, named := ["broadside/rules.boxes"], apart := false, laid := [("broadside/rules.boxes", laid_broadside_rules_boxes)], narrowed := true }
def ContextOthersUptoSaid : Prop := contextOthersUptoRow.holds Tryz.pinned (OpenSpec.upto contextOthersSpec)

/-- 'broadsidelaw17.ContextMargins', WHERE WHAT IT READS IS OF BULK AT MOST 1048576: true; the input reads as it did. -/
def contextMarginsUptoRow : OpenClaim := { program := "ytlaopdfpncckeaagreatdoor", sum := "1d8b4bb1b792f387e53632987a83240ecc6152d36f98aa01ab7c68442de30f58", func := "broadside/broadsidelaw17.ContextMargins", spec := "contextMargins", unfollowed := true, recurses := true, named := ["broadside/rules.boxes"], apart := false, laid := [("broadside/rules.boxes", laid_broadside_rules_boxes)], narrowed := true }
def ContextMarginsUptoSaid : Prop := contextMarginsUptoRow.holds Tryz.pinned (OpenSpec.upto contextMarginsSpec)

end Rows
end Go.Proofs.YtlaopdfpncckeaaGreatDoor
