/-
  No cell of these rows narrows 'for every input' (looked for: loops, veiled, ifaces, maps, wideKeys, modest, calm, conditions, laid).
  DERIVED. THE GIVEN ROWS OF THIS SEAT. 8 by the template 'for every input the law returns true; each argument reads behind the call as it read before'; 0 by the template 'total and deterministic' (their statements: YtjofgafeaiiegaaTotals.lean).
  GIVEN WITH THE SEED: the statements are not yours to turn. If you find one false, say at which input.
  Laid BY PROGRAM, IN A SANDBOX (cutbox-rows.mjs): the forced cells as the released guide's own fill.sh prints them over the translation 3786572a414ef916… (all of the seat's roots in one cut). By AI agents, Wed Nov 11 2026. No macro, syntax, notation, axiom, sorry.
-/
import Derived.Test.YtjofgafeaiiegaaChecked
import GoSem.Claim
import GoSem.ClaimJoined
import GoSem.ClaimMapViews
import Derived.JoinedTies
import Derived.KernelRfl
namespace Go.Proofs.Ytjofgafeaiiegaa
/- THE CELL 'sum', in the pinned program and in every row, IS THE sha256 OF THE DUMP (.gsa) THAT YtjofgafeaiiegaaProg.lean LOADS. Nothing in Lean hashes anything: it is a label: what it is worth is what the hold of that sum in a sandbox is worth. -/
noncomputable def Try.pinned : Pinned := { name := "ytjofgafeaiiegaa", sum := "3786572a414ef916daac096e07cfc9138c79876dcc1fe9ff759197280af66c00", checked := Try.checked }
namespace Rows
def none {H : Type} : Left H := { results := [], args := [] }

/-- 'broadsidelaw07.ValueContent': WHATEVER THE INPUT: true; the input reads as it did. -/
def valueContentSpec : ChangeSpec := { name := "valueContent", fn := fun _ => fun
  | [d] => { results := [.lit (.bool true)], args := [d] }
  | _ => none }
def valueContentRow : OpenClaim := { program := "ytjofgafeaiiegaa", sum := "3786572a414ef916daac096e07cfc9138c79876dcc1fe9ff759197280af66c00", func := "broadside/broadsidelaw07.ValueContent", spec := "valueContent", apart := false }
def ValueContentSaid : Prop := valueContentRow.holds Try.pinned (OpenSpec.ofChange valueContentSpec)

/-- ITS FALSE NEIGHBOUR: 'it returns false'. Refute it at one input. -/
def valueContentWrong : ChangeSpec := { name := "valueContent", fn := fun _ => fun
  | [d] => { results := [.lit (.bool false)], args := [d] }
  | _ => none }
def ValueContentWrongFalsely : Prop := valueContentRow.holds Try.pinned (OpenSpec.ofChange valueContentWrong)

/-- 'broadsidelaw07.ValueLists': WHATEVER THE INPUT: true; the input reads as it did. -/
def valueListsSpec : ChangeSpec := { name := "valueLists", fn := fun _ => fun
  | [d1, d2] => { results := [.lit (.bool true)], args := [d1, d2] }
  | _ => none }
def valueListsRow : OpenClaim := { program := "ytjofgafeaiiegaa", sum := "3786572a414ef916daac096e07cfc9138c79876dcc1fe9ff759197280af66c00", func := "broadside/broadsidelaw07.ValueLists", spec := "valueLists", apart := false }
def ValueListsSaid : Prop := valueListsRow.holds Try.pinned (OpenSpec.ofChange valueListsSpec)

/-- ITS FALSE NEIGHBOUR: 'it returns false'. Refute it at one input. -/
def valueListsWrong : ChangeSpec := { name := "valueLists", fn := fun _ => fun
  | [d1, d2] => { results := [.lit (.bool false)], args := [d1, d2] }
  | _ => none }
def ValueListsWrongFalsely : Prop := valueListsRow.holds Try.pinned (OpenSpec.ofChange valueListsWrong)

/-- 'broadsidelaw07.ValueWords': WHATEVER THE INPUT: true; the input reads as it did. -/
def valueWordsSpec : ChangeSpec := { name := "valueWords", fn := fun _ => fun
  | [d1, d2] => { results := [.lit (.bool true)], args := [d1, d2] }
  | _ => none }
def valueWordsRow : OpenClaim := { program := "ytjofgafeaiiegaa", sum := "3786572a414ef916daac096e07cfc9138c79876dcc1fe9ff759197280af66c00", func := "broadside/broadsidelaw07.ValueWords", spec := "valueWords", apart := false }
def ValueWordsSaid : Prop := valueWordsRow.holds Try.pinned (OpenSpec.ofChange valueWordsSpec)

/-- ITS FALSE NEIGHBOUR: 'it returns false'. Refute it at one input. -/
def valueWordsWrong : ChangeSpec := { name := "valueWords", fn := fun _ => fun
  | [d1, d2] => { results := [.lit (.bool false)], args := [d1, d2] }
  | _ => none }
def ValueWordsWrongFalsely : Prop := valueWordsRow.holds Try.pinned (OpenSpec.ofChange valueWordsWrong)

/-- 'broadsidelaw07.ValueNumbers': WHATEVER THE INPUT: true; the input reads as it did. -/
def valueNumbersSpec : ChangeSpec := { name := "valueNumbers", fn := fun _ => fun
  | [d1, d2] => { results := [.lit (.bool true)], args := [d1, d2] }
  | _ => none }
def valueNumbersRow : OpenClaim := { program := "ytjofgafeaiiegaa", sum := "3786572a414ef916daac096e07cfc9138c79876dcc1fe9ff759197280af66c00", func := "broadside/broadsidelaw07.ValueNumbers", spec := "valueNumbers", apart := false }
def ValueNumbersSaid : Prop := valueNumbersRow.holds Try.pinned (OpenSpec.ofChange valueNumbersSpec)

/-- ITS FALSE NEIGHBOUR: 'it returns false'. Refute it at one input. -/
def valueNumbersWrong : ChangeSpec := { name := "valueNumbers", fn := fun _ => fun
  | [d1, d2] => { results := [.lit (.bool false)], args := [d1, d2] }
  | _ => none }
def ValueNumbersWrongFalsely : Prop := valueNumbersRow.holds Try.pinned (OpenSpec.ofChange valueNumbersWrong)

/-- 'broadsidelaw07.ValueLengths': WHATEVER THE INPUT: true; the input reads as it did. -/
def valueLengthsSpec : ChangeSpec := { name := "valueLengths", fn := fun _ => fun
  | [d1, d2] => { results := [.lit (.bool true)], args := [d1, d2] }
  | _ => none }
def valueLengthsRow : OpenClaim := { program := "ytjofgafeaiiegaa", sum := "3786572a414ef916daac096e07cfc9138c79876dcc1fe9ff759197280af66c00", func := "broadside/broadsidelaw07.ValueLengths", spec := "valueLengths", apart := false }
def ValueLengthsSaid : Prop := valueLengthsRow.holds Try.pinned (OpenSpec.ofChange valueLengthsSpec)

/-- ITS FALSE NEIGHBOUR: 'it returns false'. Refute it at one input. -/
def valueLengthsWrong : ChangeSpec := { name := "valueLengths", fn := fun _ => fun
  | [d1, d2] => { results := [.lit (.bool false)], args := [d1, d2] }
  | _ => none }
def ValueLengthsWrongFalsely : Prop := valueLengthsRow.holds Try.pinned (OpenSpec.ofChange valueLengthsWrong)

/-- 'broadsidelaw07.ValueFour': WHATEVER THE INPUT: true; the input reads as it did. -/
def valueFourSpec : ChangeSpec := { name := "valueFour", fn := fun _ => fun
  | [d1, d2, d3, d4] => { results := [.lit (.bool true)], args := [d1, d2, d3, d4] }
  | _ => none }
def valueFourRow : OpenClaim := { program := "ytjofgafeaiiegaa", sum := "3786572a414ef916daac096e07cfc9138c79876dcc1fe9ff759197280af66c00", func := "broadside/broadsidelaw07.ValueFour", spec := "valueFour", apart := false }
def ValueFourSaid : Prop := valueFourRow.holds Try.pinned (OpenSpec.ofChange valueFourSpec)

/-- ITS FALSE NEIGHBOUR: 'it returns false'. Refute it at one input. -/
def valueFourWrong : ChangeSpec := { name := "valueFour", fn := fun _ => fun
  | [d1, d2, d3, d4] => { results := [.lit (.bool false)], args := [d1, d2, d3, d4] }
  | _ => none }
def ValueFourWrongFalsely : Prop := valueFourRow.holds Try.pinned (OpenSpec.ofChange valueFourWrong)

/-- 'broadsidelaw07.ValueSteps': WHATEVER THE INPUT: true; the input reads as it did. -/
def valueStepsSpec : ChangeSpec := { name := "valueSteps", fn := fun _ => fun
  | [d1, d2] => { results := [.lit (.bool true)], args := [d1, d2] }
  | _ => none }
def valueStepsRow : OpenClaim := { program := "ytjofgafeaiiegaa", sum := "3786572a414ef916daac096e07cfc9138c79876dcc1fe9ff759197280af66c00", func := "broadside/broadsidelaw07.ValueSteps", spec := "valueSteps", unfollowed := true, recurses := true, apart := false }
def ValueStepsSaid : Prop := valueStepsRow.holds Try.pinned (OpenSpec.ofChange valueStepsSpec)

/-- ITS FALSE NEIGHBOUR: 'it returns false'. Refute it at one input. -/
def valueStepsWrong : ChangeSpec := { name := "valueSteps", fn := fun _ => fun
  | [d1, d2] => { results := [.lit (.bool false)], args := [d1, d2] }
  | _ => none }
def ValueStepsWrongFalsely : Prop := valueStepsRow.holds Try.pinned (OpenSpec.ofChange valueStepsWrong)

/-- 'broadsidelaw07.ValueSpaces': WHATEVER THE INPUT: true; the input reads as it did. -/
def valueSpacesSpec : ChangeSpec := { name := "valueSpaces", fn := fun _ => fun
  | [d] => { results := [.lit (.bool true)], args := [d] }
  | _ => none }
def valueSpacesRow : OpenClaim := { program := "ytjofgafeaiiegaa", sum := "3786572a414ef916daac096e07cfc9138c79876dcc1fe9ff759197280af66c00", func := "broadside/broadsidelaw07.ValueSpaces", spec := "valueSpaces", unfollowed := true, recurses := true, apart := false }
def ValueSpacesSaid : Prop := valueSpacesRow.holds Try.pinned (OpenSpec.ofChange valueSpacesSpec)

/-- ITS FALSE NEIGHBOUR: 'it returns false'. Refute it at one input. -/
def valueSpacesWrong : ChangeSpec := { name := "valueSpaces", fn := fun _ => fun
  | [d] => { results := [.lit (.bool false)], args := [d] }
  | _ => none }
def ValueSpacesWrongFalsely : Prop := valueSpacesRow.holds Try.pinned (OpenSpec.ofChange valueSpacesWrong)

/- THE SECOND FORM. 'bulk': how many values and letters a reading holds, each counted each time it is reached (what is shared counts as often as it is met; a slice's spare places count too). A statement '..UptoSaid' is the law's where the arguments, and the package variables that the reading takes, are together of bulk at most 1048576: NARROWER than '..Said'. Prove '..Said' where nothing that the law and all that it calls make is longer than what came in: it says more and counts as full. Else prove '..UptoSaid'. A law counts once. -/
mutual
def uptoBulk {H : Type} : DataW H → Nat
  | .lit (.string bytes) => bytes.length + 1
  | .lit _ => 1
  | .nil => 1
  | .ptr d => uptoBulk d + 1
  | .slice elems spare => uptoBulkAll elems + uptoBulkAll spare + 1
  | .agg parts => uptoBulkAll parts + 1
  | .iface _ d => uptoBulk d + 1
  | .map entries => uptoBulkEntries entries + 1
  | .held _ => 1
def uptoBulkAll {H : Type} : List (DataW H) → Nat
  | [] => 0
  | d :: r => uptoBulk d + uptoBulkAll r
def uptoBulkEntries {H : Type} : List (Lit × DataW H) → Nat
  | [] => 0
  | x :: r => uptoBulkEntry x + uptoBulkEntries r
def uptoBulkEntry {H : Type} : Lit × DataW H → Nat
  | (.string bytes, d) => bytes.length + uptoBulk d + 1
  | (_, d) => uptoBulk d + 1
 end
def uptoSmall : (H : Type) → List (DataW H) → Bool := fun _ ds => decide (uptoBulkAll ds ≤ 1048576)
def OpenSpec.upto (s : _root_.Go.ChangeSpec) : _root_.Go.OpenSpec := { _root_.Go.OpenSpec.ofChange s with cond := some uptoSmall }

/-- 'broadsidelaw07.ValueContent', WHERE WHAT IT READS IS OF BULK AT MOST 1048576: true; the input reads as it did. -/
def valueContentUptoRow : OpenClaim := { program := "ytjofgafeaiiegaa", sum := "3786572a414ef916daac096e07cfc9138c79876dcc1fe9ff759197280af66c00", func := "broadside/broadsidelaw07.ValueContent", spec := "valueContent", apart := false, narrowed := true }
def ValueContentUptoSaid : Prop := valueContentUptoRow.holds Try.pinned (OpenSpec.upto valueContentSpec)

/-- 'broadsidelaw07.ValueLists', WHERE WHAT IT READS IS OF BULK AT MOST 1048576: true; the input reads as it did. -/
def valueListsUptoRow : OpenClaim := { program := "ytjofgafeaiiegaa", sum := "3786572a414ef916daac096e07cfc9138c79876dcc1fe9ff759197280af66c00", func := "broadside/broadsidelaw07.ValueLists", spec := "valueLists", apart := false, narrowed := true }
def ValueListsUptoSaid : Prop := valueListsUptoRow.holds Try.pinned (OpenSpec.upto valueListsSpec)

/-- 'broadsidelaw07.ValueWords', WHERE WHAT IT READS IS OF BULK AT MOST 1048576: true; the input reads as it did. -/
def valueWordsUptoRow : OpenClaim := { program := "ytjofgafeaiiegaa", sum := "3786572a414ef916daac096e07cfc9138c79876dcc1fe9ff759197280af66c00", func := "broadside/broadsidelaw07.ValueWords", spec := "valueWords", apart := false, narrowed := true }
def ValueWordsUptoSaid : Prop := valueWordsUptoRow.holds Try.pinned (OpenSpec.upto valueWordsSpec)

/-- 'broadsidelaw07.ValueNumbers', WHERE WHAT IT READS IS OF BULK AT MOST 1048576: true; the input reads as it did. -/
def valueNumbersUptoRow : OpenClaim := { program := "ytjofgafeaiiegaa", sum := "3786572a414ef916daac096e07cfc9138c79876dcc1fe9ff759197280af66c00", func := "broadside/broadsidelaw07.ValueNumbers", spec := "valueNumbers", apart := false, narrowed := true }
def ValueNumbersUptoSaid : Prop := valueNumbersUptoRow.holds Try.pinned (OpenSpec.upto valueNumbersSpec)

/-- 'broadsidelaw07.ValueLengths', WHERE WHAT IT READS IS OF BULK AT MOST 1048576: true; the input reads as it did. -/
def valueLengthsUptoRow : OpenClaim := { program := "ytjofgafeaiiegaa", sum := "3786572a414ef916daac096e07cfc9138c79876dcc1fe9ff759197280af66c00", func := "broadside/broadsidelaw07.ValueLengths", spec := "valueLengths", apart := false, narrowed := true }
def ValueLengthsUptoSaid : Prop := valueLengthsUptoRow.holds Try.pinned (OpenSpec.upto valueLengthsSpec)

/-- 'broadsidelaw07.ValueFour', WHERE WHAT IT READS IS OF BULK AT MOST 1048576: true; the input reads as it did. -/
def valueFourUptoRow : OpenClaim := { program := "ytjofgafeaiiegaa", sum := "3786572a414ef916daac096e07cfc9138c79876dcc1fe9ff759197280af66c00", func := "broadside/broadsidelaw07.ValueFour", spec := "valueFour", apart := false, narrowed := true }
def ValueFourUptoSaid : Prop := valueFourUptoRow.holds Try.pinned (OpenSpec.upto valueFourSpec)

/-- 'broadsidelaw07.ValueSteps', WHERE WHAT IT READS IS OF BULK AT MOST 1048576: true; the input reads as it did. -/
def valueStepsUptoRow : OpenClaim := { program := "ytjofgafeaiiegaa", sum := "3786572a414ef916daac096e07cfc9138c79876dcc1fe9ff759197280af66c00", func := "broadside/broadsidelaw07.ValueSteps", spec := "valueSteps", unfollowed := true, recurses := true, apart := false, narrowed := true }
def ValueStepsUptoSaid : Prop := valueStepsUptoRow.holds Try.pinned (OpenSpec.upto valueStepsSpec)

/-- 'broadsidelaw07.ValueSpaces', WHERE WHAT IT READS IS OF BULK AT MOST 1048576: true; the input reads as it did. -/
def valueSpacesUptoRow : OpenClaim := { program := "ytjofgafeaiiegaa", sum := "3786572a414ef916daac096e07cfc9138c79876dcc1fe9ff759197280af66c00", func := "broadside/broadsidelaw07.ValueSpaces", spec := "valueSpaces", unfollowed := true, recurses := true, apart := false, narrowed := true }
def ValueSpacesUptoSaid : Prop := valueSpacesUptoRow.holds Try.pinned (OpenSpec.upto valueSpacesSpec)

end Rows
end Go.Proofs.Ytjofgafeaiiegaa
