/-
  No cell of these rows narrows 'for every input' (looked for: loops, veiled, ifaces, maps, wideKeys, modest, calm, conditions, laid).
  DERIVED. THE GIVEN ROWS OF THIS SEAT. 5 by the template 'for every input the law returns true; each argument reads behind the call as it read before'; 0 by the template 'total and deterministic' (their statements: YteifbbinfipdlaaTotals.lean).
  GIVEN WITH THE SEED: the statements are not yours to turn. If you find one false, say at which input.
  Laid BY PROGRAM, IN A SANDBOX (cutbox-rows.mjs): the forced cells as the released guide's own fill.sh prints them over the translation 06bc186a312ec5da… (all of the seat's roots in one cut). By AI agents, Wed Nov 11 2026. No macro, syntax, notation, axiom, sorry.
-/
import Derived.Test.YteifbbinfipdlaaChecked
import GoSem.Claim
import GoSem.ClaimJoined
import GoSem.ClaimMapViews
import Derived.JoinedTies
import Derived.KernelRfl
namespace Go.Proofs.Yteifbbinfipdlaa
/- THE CELL 'sum', in the pinned program and in every row, IS THE sha256 OF THE DUMP (.gsa) THAT YteifbbinfipdlaaProg.lean LOADS. Nothing in Lean hashes anything: it is a label: what it is worth is what the hold of that sum in a sandbox is worth. -/
noncomputable def Try.pinned : Pinned := { name := "yteifbbinfipdlaa", sum := "06bc186a312ec5da210dd19a47450ee2b3332fcd749e64dc8f729e332af6479c", checked := Try.checked }
namespace Rows
def none {H : Type} : Left H := { results := [], args := [] }

/-- 'broadsidelaw19.CountsStep': WHATEVER THE INPUT: true; the input reads as it did. -/
def countsStepSpec : ChangeSpec := { name := "countsStep", fn := fun _ => fun
  | [d1, d2, d3, d4] => { results := [.lit (.bool true)], args := [d1, d2, d3, d4] }
  | _ => none }
def countsStepRow : OpenClaim := { program := "yteifbbinfipdlaa", sum := "06bc186a312ec5da210dd19a47450ee2b3332fcd749e64dc8f729e332af6479c", func := "broadside/broadsidelaw19.CountsStep", spec := "countsStep", unfollowed := true, recurses := true, apart := false }
def CountsStepSaid : Prop := countsStepRow.holds Try.pinned (OpenSpec.ofChange countsStepSpec)

/-- ITS FALSE NEIGHBOUR: 'it returns false'. Refute it at one input. -/
def countsStepWrong : ChangeSpec := { name := "countsStep", fn := fun _ => fun
  | [d1, d2, d3, d4] => { results := [.lit (.bool false)], args := [d1, d2, d3, d4] }
  | _ => none }
def CountsStepWrongFalsely : Prop := countsStepRow.holds Try.pinned (OpenSpec.ofChange countsStepWrong)

/-- 'broadsidelaw19.CountsValues': WHATEVER THE INPUT: true; the input reads as it did. -/
def countsValuesSpec : ChangeSpec := { name := "countsValues", fn := fun _ => fun
  | [d1, d2] => { results := [.lit (.bool true)], args := [d1, d2] }
  | _ => none }
def countsValuesRow : OpenClaim := { program := "yteifbbinfipdlaa", sum := "06bc186a312ec5da210dd19a47450ee2b3332fcd749e64dc8f729e332af6479c", func := "broadside/broadsidelaw19.CountsValues", spec := "countsValues", unfollowed := true, recurses := true, apart := false }
def CountsValuesSaid : Prop := countsValuesRow.holds Try.pinned (OpenSpec.ofChange countsValuesSpec)

/-- ITS FALSE NEIGHBOUR: 'it returns false'. Refute it at one input. -/
def countsValuesWrong : ChangeSpec := { name := "countsValues", fn := fun _ => fun
  | [d1, d2] => { results := [.lit (.bool false)], args := [d1, d2] }
  | _ => none }
def CountsValuesWrongFalsely : Prop := countsValuesRow.holds Try.pinned (OpenSpec.ofChange countsValuesWrong)

/-- 'broadsidelaw19.CountsNames': WHATEVER THE INPUT: true; the input reads as it did. -/
def countsNamesSpec : ChangeSpec := { name := "countsNames", fn := fun _ => fun
  | [d1, d2, d3] => { results := [.lit (.bool true)], args := [d1, d2, d3] }
  | _ => none }
def countsNamesRow : OpenClaim := { program := "yteifbbinfipdlaa", sum := "06bc186a312ec5da210dd19a47450ee2b3332fcd749e64dc8f729e332af6479c", func := "broadside/broadsidelaw19.CountsNames", spec := "countsNames", unfollowed := true, recurses := true, apart := false }
def CountsNamesSaid : Prop := countsNamesRow.holds Try.pinned (OpenSpec.ofChange countsNamesSpec)

/-- ITS FALSE NEIGHBOUR: 'it returns false'. Refute it at one input. -/
def countsNamesWrong : ChangeSpec := { name := "countsNames", fn := fun _ => fun
  | [d1, d2, d3] => { results := [.lit (.bool false)], args := [d1, d2, d3] }
  | _ => none }
def CountsNamesWrongFalsely : Prop := countsNamesRow.holds Try.pinned (OpenSpec.ofChange countsNamesWrong)

/-- 'broadsidelaw19.CountsSight': WHATEVER THE INPUT: true; the input reads as it did. -/
def countsSightSpec : ChangeSpec := { name := "countsSight", fn := fun _ => fun
  | [d1, d2] => { results := [.lit (.bool true)], args := [d1, d2] }
  | _ => none }
def countsSightRow : OpenClaim := { program := "yteifbbinfipdlaa", sum := "06bc186a312ec5da210dd19a47450ee2b3332fcd749e64dc8f729e332af6479c", func := "broadside/broadsidelaw19.CountsSight", spec := "countsSight", unfollowed := true, recurses := true, apart := false }
def CountsSightSaid : Prop := countsSightRow.holds Try.pinned (OpenSpec.ofChange countsSightSpec)

/-- ITS FALSE NEIGHBOUR: 'it returns false'. Refute it at one input. -/
def countsSightWrong : ChangeSpec := { name := "countsSight", fn := fun _ => fun
  | [d1, d2] => { results := [.lit (.bool false)], args := [d1, d2] }
  | _ => none }
def CountsSightWrongFalsely : Prop := countsSightRow.holds Try.pinned (OpenSpec.ofChange countsSightWrong)

/-- 'broadsidelaw19.CountsPlain': WHATEVER THE INPUT: true; the input reads as it did. -/
def countsPlainSpec : ChangeSpec := { name := "countsPlain", fn := fun _ => fun
  | [d] => { results := [.lit (.bool true)], args := [d] }
  | _ => none }
def countsPlainRow : OpenClaim := { program := "yteifbbinfipdlaa", sum := "06bc186a312ec5da210dd19a47450ee2b3332fcd749e64dc8f729e332af6479c", func := "broadside/broadsidelaw19.CountsPlain", spec := "countsPlain", unfollowed := true, recurses := true, apart := false }
def CountsPlainSaid : Prop := countsPlainRow.holds Try.pinned (OpenSpec.ofChange countsPlainSpec)

/-- ITS FALSE NEIGHBOUR: 'it returns false'. Refute it at one input. -/
def countsPlainWrong : ChangeSpec := { name := "countsPlain", fn := fun _ => fun
  | [d] => { results := [.lit (.bool false)], args := [d] }
  | _ => none }
def CountsPlainWrongFalsely : Prop := countsPlainRow.holds Try.pinned (OpenSpec.ofChange countsPlainWrong)

/- THE SECOND FORM. 'bulk': how many values and letters a reading holds, each counted each time it is reached (what is shared counts as often as it is met; a slice's spare places count too). A statement '..UptoSaid' is the law's where the arguments, and the package variables that the reading takes, are together of bulk at most 1048576: NARROWER than '..Said'. Prove '..Said' where nothing that the law and all that it calls make is longer than what came in: it says more and counts as full. Else prove '..UptoSaid'. A law counts once. -/
mutual
def uptoBulk {H : Type} : DataW H → Nat
  | .lit (.string bytes) => bytes.length + 1
  | .lit _ => 1
  | .nil => 1
  | .ptr d => uptoBulk d + 1
  | .slice elems spare => uptoBulkAll elems + uptoBulkAll spare + 1
  | .agg parts => uptoBulkAll parts + 1
  | .iface _ d => uptoBulk d + 1
  | .map entries => uptoBulkEntries entries + 1
  | .held _ => 1
def uptoBulkAll {H : Type} : List (DataW H) → Nat
  | [] => 0
  | d :: r => uptoBulk d + uptoBulkAll r
def uptoBulkEntries {H : Type} : List (Lit × DataW H) → Nat
  | [] => 0
  | x :: r => uptoBulkEntry x + uptoBulkEntries r
def uptoBulkEntry {H : Type} : Lit × DataW H → Nat
  | (.string bytes, d) => bytes.length + uptoBulk d + 1
  | (_, d) => uptoBulk d + 1
 end
def uptoSmall : (H : Type) → List (DataW H) → Bool := fun _ ds => decide (uptoBulkAll ds ≤ 1048576)
def OpenSpec.upto (s : _root_.Go.ChangeSpec) : _root_.Go.OpenSpec := { _root_.Go.OpenSpec.ofChange s with cond := some uptoSmall }

/-- 'broadsidelaw19.CountsStep', WHERE WHAT IT READS IS OF BULK AT MOST 1048576: true; the input reads as it did. -/
def countsStepUptoRow : OpenClaim := { program := "yteifbbinfipdlaa", sum := "06bc186a312ec5da210dd19a47450ee2b3332fcd749e64dc8f729e332af6479c", func := "broadside/broadsidelaw19.CountsStep", spec := "countsStep", unfollowed := true, recurses := true, apart := false, narrowed := true }
def CountsStepUptoSaid : Prop := countsStepUptoRow.holds Try.pinned (OpenSpec.upto countsStepSpec)

/-- 'broadsidelaw19.CountsValues', WHERE WHAT IT READS IS OF BULK AT MOST 1048576: true; the input reads as it did. -/
def countsValuesUptoRow : OpenClaim := { program := "yteifbbinfipdlaa", sum := "06bc186a312ec5da210dd19a47450ee2b3332fcd749e64dc8f729e332af6479c", func := "broadside/broadsidelaw19.CountsValues", spec := "countsValues", unfollowed := true, recurses := true, apart := false, narrowed := true }
def CountsValuesUptoSaid : Prop := countsValuesUptoRow.holds Try.pinned (OpenSpec.upto countsValuesSpec)

/-- 'broadsidelaw19.CountsNames', WHERE WHAT IT READS IS OF BULK AT MOST 1048576: true; the input reads as it did. -/
def countsNamesUptoRow : OpenClaim := { program := "yteifbbinfipdlaa", sum := "06bc186a312ec5da210dd19a47450ee2b3332fcd749e64dc8f729e332af6479c", func := "broadside/broadsidelaw19.CountsNames", spec := "countsNames", unfollowed := true, recurses := true, apart := false, narrowed := true }
def CountsNamesUptoSaid : Prop := countsNamesUptoRow.holds Try.pinned (OpenSpec.upto countsNamesSpec)

/-- 'broadsidelaw19.CountsSight', WHERE WHAT IT READS IS OF BULK AT MOST 1048576: true; the input reads as it did. -/
def countsSightUptoRow : OpenClaim := { program := "yteifbbinfipdlaa", sum := "06bc186a312ec5da210dd19a47450ee2b3332fcd749e64dc8f729e332af6479c", func := "broadside/broadsidelaw19.CountsSight", spec := "countsSight", unfollowed := true, recurses := true, apart := false, narrowed := true }
def CountsSightUptoSaid : Prop := countsSightUptoRow.holds Try.pinned (OpenSpec.upto countsSightSpec)

/-- 'broadsidelaw19.CountsPlain', WHERE WHAT IT READS IS OF BULK AT MOST 1048576: true; the input reads as it did. -/
def countsPlainUptoRow : OpenClaim := { program := "yteifbbinfipdlaa", sum := "06bc186a312ec5da210dd19a47450ee2b3332fcd749e64dc8f729e332af6479c", func := "broadside/broadsidelaw19.CountsPlain", spec := "countsPlain", unfollowed := true, recurses := true, apart := false, narrowed := true }
def CountsPlainUptoSaid : Prop := countsPlainUptoRow.holds Try.pinned (OpenSpec.upto countsPlainSpec)

end Rows
end Go.Proofs.Yteifbbinfipdlaa
