/-
  No cell of these rows narrows 'for every input' (looked for: loops, veiled, ifaces, maps, wideKeys, modest, calm, conditions, laid).
  DERIVED. THE GIVEN ROWS OF THIS SEAT. 6 by the template 'for every input the law returns true; each argument reads behind the call as it read before'; 0 by the template 'total and deterministic' (their statements: YtnjicehpafnkkaaTotals.lean).
  GIVEN WITH THE SEED: the statements are not yours to turn. If you find one false, say at which input.
  Laid BY PROGRAM, IN A SANDBOX (cutbox-rows.mjs): the forced cells as the released guide's own fill.sh prints them over the translation 79bea914b5c35829… (all of the seat's roots in one cut). By AI agents, Wed Nov 11 2026. No macro, syntax, notation, axiom, sorry.
-/
import Derived.Test.YtnjicehpafnkkaaChecked
import GoSem.Claim
import GoSem.ClaimJoined
import GoSem.ClaimMapViews
import Derived.JoinedTies
import Derived.KernelRfl
namespace Go.Proofs.Ytnjicehpafnkkaa
/- THE CELL 'sum', in the pinned program and in every row, IS THE sha256 OF THE DUMP (.gsa) THAT YtnjicehpafnkkaaProg.lean LOADS. Nothing in Lean hashes anything: it is a label: what it is worth is what the hold of that sum in a sandbox is worth. -/
noncomputable def Try.pinned : Pinned := { name := "ytnjicehpafnkkaa", sum := "79bea914b5c3582914c39ae15fd497db3191ffdf8f49679a583d85c56a37032c", checked := Try.checked }
namespace Rows
def none {H : Type} : Left H := { results := [], args := [] }

/-- 'broadsidelaw09.TreeChecks': WHATEVER THE INPUT: true; the input reads as it did. -/
def treeChecksSpec : ChangeSpec := { name := "treeChecks", fn := fun _ => fun
  | [d] => { results := [.lit (.bool true)], args := [d] }
  | _ => none }
def treeChecksRow : OpenClaim := { program := "ytnjicehpafnkkaa", sum := "79bea914b5c3582914c39ae15fd497db3191ffdf8f49679a583d85c56a37032c", func := "broadside/broadsidelaw09.TreeChecks", spec := "treeChecks", unfollowed := true, recurses := true, apart := false }
def TreeChecksSaid : Prop := treeChecksRow.holds Try.pinned (OpenSpec.ofChange treeChecksSpec)

/-- ITS FALSE NEIGHBOUR: 'it returns false'. Refute it at one input. -/
def treeChecksWrong : ChangeSpec := { name := "treeChecks", fn := fun _ => fun
  | [d] => { results := [.lit (.bool false)], args := [d] }
  | _ => none }
def TreeChecksWrongFalsely : Prop := treeChecksRow.holds Try.pinned (OpenSpec.ofChange treeChecksWrong)

/-- 'broadsidelaw09.TreeNames': WHATEVER THE INPUT: true; the input reads as it did. -/
def treeNamesSpec : ChangeSpec := { name := "treeNames", fn := fun _ => fun
  | [d1, d2] => { results := [.lit (.bool true)], args := [d1, d2] }
  | _ => none }
def treeNamesRow : OpenClaim := { program := "ytnjicehpafnkkaa", sum := "79bea914b5c3582914c39ae15fd497db3191ffdf8f49679a583d85c56a37032c", func := "broadside/broadsidelaw09.TreeNames", spec := "treeNames", unfollowed := true, recurses := true, apart := false }
def TreeNamesSaid : Prop := treeNamesRow.holds Try.pinned (OpenSpec.ofChange treeNamesSpec)

/-- ITS FALSE NEIGHBOUR: 'it returns false'. Refute it at one input. -/
def treeNamesWrong : ChangeSpec := { name := "treeNames", fn := fun _ => fun
  | [d1, d2] => { results := [.lit (.bool false)], args := [d1, d2] }
  | _ => none }
def TreeNamesWrongFalsely : Prop := treeNamesRow.holds Try.pinned (OpenSpec.ofChange treeNamesWrong)

/-- 'broadsidelaw09.TreeWithin': WHATEVER THE INPUT: true; the input reads as it did. -/
def treeWithinSpec : ChangeSpec := { name := "treeWithin", fn := fun _ => fun
  | [d] => { results := [.lit (.bool true)], args := [d] }
  | _ => none }
def treeWithinRow : OpenClaim := { program := "ytnjicehpafnkkaa", sum := "79bea914b5c3582914c39ae15fd497db3191ffdf8f49679a583d85c56a37032c", func := "broadside/broadsidelaw09.TreeWithin", spec := "treeWithin", unfollowed := true, recurses := true, apart := false }
def TreeWithinSaid : Prop := treeWithinRow.holds Try.pinned (OpenSpec.ofChange treeWithinSpec)

/-- ITS FALSE NEIGHBOUR: 'it returns false'. Refute it at one input. -/
def treeWithinWrong : ChangeSpec := { name := "treeWithin", fn := fun _ => fun
  | [d] => { results := [.lit (.bool false)], args := [d] }
  | _ => none }
def TreeWithinWrongFalsely : Prop := treeWithinRow.holds Try.pinned (OpenSpec.ofChange treeWithinWrong)

/-- 'broadsidelaw09.TreeCuts': WHATEVER THE INPUT: true; the input reads as it did. -/
def treeCutsSpec : ChangeSpec := { name := "treeCuts", fn := fun _ => fun
  | [d1, d2] => { results := [.lit (.bool true)], args := [d1, d2] }
  | _ => none }
def treeCutsRow : OpenClaim := { program := "ytnjicehpafnkkaa", sum := "79bea914b5c3582914c39ae15fd497db3191ffdf8f49679a583d85c56a37032c", func := "broadside/broadsidelaw09.TreeCuts", spec := "treeCuts", unfollowed := true, recurses := true, apart := false }
def TreeCutsSaid : Prop := treeCutsRow.holds Try.pinned (OpenSpec.ofChange treeCutsSpec)

/-- ITS FALSE NEIGHBOUR: 'it returns false'. Refute it at one input. -/
def treeCutsWrong : ChangeSpec := { name := "treeCuts", fn := fun _ => fun
  | [d1, d2] => { results := [.lit (.bool false)], args := [d1, d2] }
  | _ => none }
def TreeCutsWrongFalsely : Prop := treeCutsRow.holds Try.pinned (OpenSpec.ofChange treeCutsWrong)

/-- 'broadsidelaw09.TreeTexts': WHATEVER THE INPUT: true; the input reads as it did. -/
def treeTextsSpec : ChangeSpec := { name := "treeTexts", fn := fun _ => fun
  | [d] => { results := [.lit (.bool true)], args := [d] }
  | _ => none }
def treeTextsRow : OpenClaim := { program := "ytnjicehpafnkkaa", sum := "79bea914b5c3582914c39ae15fd497db3191ffdf8f49679a583d85c56a37032c", func := "broadside/broadsidelaw09.TreeTexts", spec := "treeTexts", unfollowed := true, recurses := true, apart := false }
def TreeTextsSaid : Prop := treeTextsRow.holds Try.pinned (OpenSpec.ofChange treeTextsSpec)

/-- ITS FALSE NEIGHBOUR: 'it returns false'. Refute it at one input. -/
def treeTextsWrong : ChangeSpec := { name := "treeTexts", fn := fun _ => fun
  | [d] => { results := [.lit (.bool false)], args := [d] }
  | _ => none }
def TreeTextsWrongFalsely : Prop := treeTextsRow.holds Try.pinned (OpenSpec.ofChange treeTextsWrong)

/-- 'broadsidelaw09.TreeTells': WHATEVER THE INPUT: true; the input reads as it did. -/
def treeTellsSpec : ChangeSpec := { name := "treeTells", fn := fun _ => fun
  | [d1, d2] => { results := [.lit (.bool true)], args := [d1, d2] }
  | _ => none }
def treeTellsRow : OpenClaim := { program := "ytnjicehpafnkkaa", sum := "79bea914b5c3582914c39ae15fd497db3191ffdf8f49679a583d85c56a37032c", func := "broadside/broadsidelaw09.TreeTells", spec := "treeTells", unfollowed := true, recurses := true, apart := false }
def TreeTellsSaid : Prop := treeTellsRow.holds Try.pinned (OpenSpec.ofChange treeTellsSpec)

/-- ITS FALSE NEIGHBOUR: 'it returns false'. Refute it at one input. -/
def treeTellsWrong : ChangeSpec := { name := "treeTells", fn := fun _ => fun
  | [d1, d2] => { results := [.lit (.bool false)], args := [d1, d2] }
  | _ => none }
def TreeTellsWrongFalsely : Prop := treeTellsRow.holds Try.pinned (OpenSpec.ofChange treeTellsWrong)

/- THE SECOND FORM. 'bulk': how many values and letters a reading holds, each counted each time it is reached (what is shared counts as often as it is met; a slice's spare places count too). A statement '..UptoSaid' is the law's where the arguments, and the package variables that the reading takes, are together of bulk at most 1048576: NARROWER than '..Said'. Prove '..Said' where nothing that the law and all that it calls make is longer than what came in: it says more and counts as full. Else prove '..UptoSaid'. A law counts once. -/
mutual
def uptoBulk {H : Type} : DataW H → Nat
  | .lit (.string bytes) => bytes.length + 1
  | .lit _ => 1
  | .nil => 1
  | .ptr d => uptoBulk d + 1
  | .slice elems spare => uptoBulkAll elems + uptoBulkAll spare + 1
  | .agg parts => uptoBulkAll parts + 1
  | .iface _ d => uptoBulk d + 1
  | .map entries => uptoBulkEntries entries + 1
  | .held _ => 1
def uptoBulkAll {H : Type} : List (DataW H) → Nat
  | [] => 0
  | d :: r => uptoBulk d + uptoBulkAll r
def uptoBulkEntries {H : Type} : List (Lit × DataW H) → Nat
  | [] => 0
  | x :: r => uptoBulkEntry x + uptoBulkEntries r
def uptoBulkEntry {H : Type} : Lit × DataW H → Nat
  | (.string bytes, d) => bytes.length + uptoBulk d + 1
  | (_, d) => uptoBulk d + 1
 end
def uptoSmall : (H : Type) → List (DataW H) → Bool := fun _ ds => decide (uptoBulkAll ds ≤ 1048576)
def OpenSpec.upto (s : _root_.Go.ChangeSpec) : _root_.Go.OpenSpec := { _root_.Go.OpenSpec.ofChange s with cond := some uptoSmall }

/-- 'broadsidelaw09.TreeChecks', WHERE WHAT IT READS IS OF BULK AT MOST 1048576: true; the input reads as it did. -/
def treeChecksUptoRow : OpenClaim := { program := "ytnjicehpafnkkaa", sum := "79bea914b5c3582914c39ae15fd497db3191ffdf8f49679a583d85c56a37032c", func := "broadside/broadsidelaw09.TreeChecks", spec := "treeChecks", unfollowed := true, recurses := true, apart := false, narrowed := true }
def TreeChecksUptoSaid : Prop := treeChecksUptoRow.holds Try.pinned (OpenSpec.upto treeChecksSpec)

/-- 'broadsidelaw09.TreeNames', WHERE WHAT IT READS IS OF BULK AT MOST 1048576: true; the input reads as it did. -/
def treeNamesUptoRow : OpenClaim := { program := "ytnjicehpafnkkaa", sum := "79bea914b5c3582914c39ae15fd497db3191ffdf8f49679a583d85c56a37032c", func := "broadside/broadsidelaw09.TreeNames", spec := "treeNames", unfollowed := true, recurses := true, apart := false, narrowed := true }
def TreeNamesUptoSaid : Prop := treeNamesUptoRow.holds Try.pinned (OpenSpec.upto treeNamesSpec)

/-- 'broadsidelaw09.TreeWithin', WHERE WHAT IT READS IS OF BULK AT MOST 1048576: true; the input reads as it did. -/
def treeWithinUptoRow : OpenClaim := { program := "ytnjicehpafnkkaa", sum := "79bea914b5c3582914c39ae15fd497db3191ffdf8f49679a583d85c56a37032c", func := "broadside/broadsidelaw09.TreeWithin", spec := "treeWithin", unfollowed := true, recurses := true, apart := false, narrowed := true }
def TreeWithinUptoSaid : Prop := treeWithinUptoRow.holds Try.pinned (OpenSpec.upto treeWithinSpec)

/-- 'broadsidelaw09.TreeCuts', WHERE WHAT IT READS IS OF BULK AT MOST 1048576: true; the input reads as it did. -/
def treeCutsUptoRow : OpenClaim := { program := "ytnjicehpafnkkaa", sum := "79bea914b5c3582914c39ae15fd497db3191ffdf8f49679a583d85c56a37032c", func := "broadside/broadsidelaw09.TreeCuts", spec := "treeCuts", unfollowed := true, recurses := true, apart := false, narrowed := true }
def TreeCutsUptoSaid : Prop := treeCutsUptoRow.holds Try.pinned (OpenSpec.upto treeCutsSpec)

/-- 'broadsidelaw09.TreeTexts', WHERE WHAT IT READS IS OF BULK AT MOST 1048576: true; the input reads as it did. -/
def treeTextsUptoRow : OpenClaim := { program := "ytnjicehpafnkkaa", sum := "79bea914b5c3582914c39ae15fd497db3191ffdf8f49679a583d85c56a37032c", func := "broadside/broadsidelaw09.TreeTexts", spec := "treeTexts", unfollowed := true, recurses := true, apart := false, narrowed := true }
def TreeTextsUptoSaid : Prop := treeTextsUptoRow.holds Try.pinned (OpenSpec.upto treeTextsSpec)

/-- 'broadsidelaw09.TreeTells', WHERE WHAT IT READS IS OF BULK AT MOST 1048576: true; the input reads as it did. -/
def treeTellsUptoRow : OpenClaim := { program := "ytnjicehpafnkkaa", sum := "79bea914b5c3582914c39ae15fd497db3191ffdf8f49679a583d85c56a37032c", func := "broadside/broadsidelaw09.TreeTells", spec := "treeTells", unfollowed := true, recurses := true, apart := false, narrowed := true }
def TreeTellsUptoSaid : Prop := treeTellsUptoRow.holds Try.pinned (OpenSpec.upto treeTellsSpec)

end Rows
end Go.Proofs.Ytnjicehpafnkkaa
