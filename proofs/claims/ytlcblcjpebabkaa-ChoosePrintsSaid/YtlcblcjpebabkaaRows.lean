/-
  No cell of these rows narrows 'for every input' (looked for: loops, veiled, ifaces, maps, wideKeys, modest, calm, conditions, laid).
  DERIVED. THE GIVEN ROWS OF THIS SEAT. 5 by the template 'for every input the law returns true; each argument reads behind the call as it read before'; 0 by the template 'total and deterministic' (their statements: YtlcblcjpebabkaaTotals.lean).
  GIVEN WITH THE SEED: the statements are not yours to turn. If you find one false, say at which input.
  Laid BY PROGRAM, IN A SANDBOX (cutbox-rows.mjs): the forced cells as the released guide's own fill.sh prints them over the translation b584b710905bf336… (all of the seat's roots in one cut). By AI agents, Wed Nov 11 2026. No macro, syntax, notation, axiom, sorry.
-/
import Derived.Test.YtlcblcjpebabkaaChecked
import GoSem.Claim
import GoSem.ClaimJoined
import GoSem.ClaimMapViews
import Derived.JoinedTies
import Derived.KernelRfl
namespace Go.Proofs.Ytlcblcjpebabkaa
/- THE CELL 'sum', in the pinned program and in every row, IS THE sha256 OF THE DUMP (.gsa) THAT YtlcblcjpebabkaaProg.lean LOADS. Nothing in Lean hashes anything: it is a label: what it is worth is what the hold of that sum in a sandbox is worth. -/
noncomputable def Try.pinned : Pinned := { name := "ytlcblcjpebabkaa", sum := "b584b710905bf33613698015e9932a9eee08bbc13b28aa40b491c67624ba3b44", checked := Try.checked }
namespace Rows
def none {H : Type} : Left H := { results := [], args := [] }

/-- 'broadsidelaw08.ChooseWeighs': WHATEVER THE INPUT: true; the input reads as it did. -/
def chooseWeighsSpec : ChangeSpec := { name := "chooseWeighs", fn := fun _ => fun
  | [d] => { results := [.lit (.bool true)], args := [d] }
  | _ => none }
def chooseWeighsRow : OpenClaim := { program := "ytlcblcjpebabkaa", sum := "b584b710905bf33613698015e9932a9eee08bbc13b28aa40b491c67624ba3b44", func := "broadside/broadsidelaw08.ChooseWeighs", spec := "chooseWeighs", unfollowed := true, recurses := true, apart := false }
def ChooseWeighsSaid : Prop := chooseWeighsRow.holds Try.pinned (OpenSpec.ofChange chooseWeighsSpec)

/-- ITS FALSE NEIGHBOUR: 'it returns false'. Refute it at one input. -/
def chooseWeighsWrong : ChangeSpec := { name := "chooseWeighs", fn := fun _ => fun
  | [d] => { results := [.lit (.bool false)], args := [d] }
  | _ => none }
def ChooseWeighsWrongFalsely : Prop := chooseWeighsRow.holds Try.pinned (OpenSpec.ofChange chooseWeighsWrong)

/-- 'broadsidelaw08.ChooseSame': WHATEVER THE INPUT: true; the input reads as it did. -/
def chooseSameSpec : ChangeSpec := { name := "chooseSame", fn := fun _ => fun
  | [d1, d2] => { results := [.lit (.bool true)], args := [d1, d2] }
  | _ => none }
def chooseSameRow : OpenClaim := { program := "ytlcblcjpebabkaa", sum := "b584b710905bf33613698015e9932a9eee08bbc13b28aa40b491c67624ba3b44", func := "broadside/broadsidelaw08.ChooseSame", spec := "chooseSame", unfollowed := true, recurses := true, apart := false }
def ChooseSameSaid : Prop := chooseSameRow.holds Try.pinned (OpenSpec.ofChange chooseSameSpec)

/-- ITS FALSE NEIGHBOUR: 'it returns false'. Refute it at one input. -/
def chooseSameWrong : ChangeSpec := { name := "chooseSame", fn := fun _ => fun
  | [d1, d2] => { results := [.lit (.bool false)], args := [d1, d2] }
  | _ => none }
def ChooseSameWrongFalsely : Prop := chooseSameRow.holds Try.pinned (OpenSpec.ofChange chooseSameWrong)

/-- 'broadsidelaw08.ChooseLists': WHATEVER THE INPUT: true; the input reads as it did. -/
def chooseListsSpec : ChangeSpec := { name := "chooseLists", fn := fun _ => fun
  | [d1, d2] => { results := [.lit (.bool true)], args := [d1, d2] }
  | _ => none }
def chooseListsRow : OpenClaim := { program := "ytlcblcjpebabkaa", sum := "b584b710905bf33613698015e9932a9eee08bbc13b28aa40b491c67624ba3b44", func := "broadside/broadsidelaw08.ChooseLists", spec := "chooseLists", unfollowed := true, recurses := true, apart := false }
def ChooseListsSaid : Prop := chooseListsRow.holds Try.pinned (OpenSpec.ofChange chooseListsSpec)

/-- ITS FALSE NEIGHBOUR: 'it returns false'. Refute it at one input. -/
def chooseListsWrong : ChangeSpec := { name := "chooseLists", fn := fun _ => fun
  | [d1, d2] => { results := [.lit (.bool false)], args := [d1, d2] }
  | _ => none }
def ChooseListsWrongFalsely : Prop := chooseListsRow.holds Try.pinned (OpenSpec.ofChange chooseListsWrong)

/-- 'broadsidelaw08.ChoosePrints': WHATEVER THE INPUT: true; the input reads as it did. -/
def choosePrintsSpec : ChangeSpec := { name := "choosePrints", fn := fun _ => fun
  | [d] => { results := [.lit (.bool true)], args := [d] }
  | _ => none }
def choosePrintsRow : OpenClaim := { program := "ytlcblcjpebabkaa", sum := "b584b710905bf33613698015e9932a9eee08bbc13b28aa40b491c67624ba3b44", func := "broadside/broadsidelaw08.ChoosePrints", spec := "choosePrints", unfollowed := true, recurses := true, apart := false }
def ChoosePrintsSaid : Prop := choosePrintsRow.holds Try.pinned (OpenSpec.ofChange choosePrintsSpec)

/-- ITS FALSE NEIGHBOUR: 'it returns false'. Refute it at one input. -/
def choosePrintsWrong : ChangeSpec := { name := "choosePrints", fn := fun _ => fun
  | [d] => { results := [.lit (.bool false)], args := [d] }
  | _ => none }
def ChoosePrintsWrongFalsely : Prop := choosePrintsRow.holds Try.pinned (OpenSpec.ofChange choosePrintsWrong)

/-- 'broadsidelaw08.ChooseBack': WHATEVER THE INPUT: true; the input reads as it did. -/
def chooseBackSpec : ChangeSpec := { name := "chooseBack", fn := fun _ => fun
  | [d] => { results := [.lit (.bool true)], args := [d] }
  | _ => none }
def chooseBackRow : OpenClaim := { program := "ytlcblcjpebabkaa", sum := "b584b710905bf33613698015e9932a9eee08bbc13b28aa40b491c67624ba3b44", func := "broadside/broadsidelaw08.ChooseBack", spec := "chooseBack", unfollowed := true, recurses := true, apart := false }
def ChooseBackSaid : Prop := chooseBackRow.holds Try.pinned (OpenSpec.ofChange chooseBackSpec)

/-- ITS FALSE NEIGHBOUR: 'it returns false'. Refute it at one input. -/
def chooseBackWrong : ChangeSpec := { name := "chooseBack", fn := fun _ => fun
  | [d] => { results := [.lit (.bool false)], args := [d] }
  | _ => none }
def ChooseBackWrongFalsely : Prop := chooseBackRow.holds Try.pinned (OpenSpec.ofChange chooseBackWrong)

/- THE SECOND FORM. 'bulk': how many values and letters a reading holds, each counted each time it is reached (what is shared counts as often as it is met; a slice's spare places count too). A statement '..UptoSaid' is the law's where the arguments, and the package variables that the reading takes, are together of bulk at most 1048576: NARROWER than '..Said'. Prove '..Said' where nothing that the law and all that it calls make is longer than what came in: it says more and counts as full. Else prove '..UptoSaid'. A law counts once. -/
mutual
def uptoBulk {H : Type} : DataW H → Nat
  | .lit (.string bytes) => bytes.length + 1
  | .lit _ => 1
  | .nil => 1
  | .ptr d => uptoBulk d + 1
  | .slice elems spare => uptoBulkAll elems + uptoBulkAll spare + 1
  | .agg parts => uptoBulkAll parts + 1
  | .iface _ d => uptoBulk d + 1
  | .map entries => uptoBulkEntries entries + 1
  | .held _ => 1
def uptoBulkAll {H : Type} : List (DataW H) → Nat
  | [] => 0
  | d :: r => uptoBulk d + uptoBulkAll r
def uptoBulkEntries {H : Type} : List (Lit × DataW H) → Nat
  | [] => 0
  | x :: r => uptoBulkEntry x + uptoBulkEntries r
def uptoBulkEntry {H : Type} : Lit × DataW H → Nat
  | (.string bytes, d) => bytes.length + uptoBulk d + 1
  | (_, d) => uptoBulk d + 1
 end
def uptoSmall : (H : Type) → List (DataW H) → Bool := fun _ ds => decide (uptoBulkAll ds ≤ 1048576)
def OpenSpec.upto (s : _root_.Go.ChangeSpec) : _root_.Go.OpenSpec := { _root_.Go.OpenSpec.ofChange s with cond := some uptoSmall }

/-- 'broadsidelaw08.ChooseWeighs', WHERE WHAT IT READS IS OF BULK AT MOST 1048576: true; the input reads as it did. -/
def chooseWeighsUptoRow : OpenClaim := { program := "ytlcblcjpebabkaa", sum := "b584b710905bf33613698015e9932a9eee08bbc13b28aa40b491c67624ba3b44", func := "broadside/broadsidelaw08.ChooseWeighs", spec := "chooseWeighs", unfollowed := true, recurses := true, apart := false, narrowed := true }
def ChooseWeighsUptoSaid : Prop := chooseWeighsUptoRow.holds Try.pinned (OpenSpec.upto chooseWeighsSpec)

/-- 'broadsidelaw08.ChooseSame', WHERE WHAT IT READS IS OF BULK AT MOST 1048576: true; the input reads as it did. -/
def chooseSameUptoRow : OpenClaim := { program := "ytlcblcjpebabkaa", sum := "b584b710905bf33613698015e9932a9eee08bbc13b28aa40b491c67624ba3b44", func := "broadside/broadsidelaw08.ChooseSame", spec := "chooseSame", unfollowed := true, recurses := true, apart := false, narrowed := true }
def ChooseSameUptoSaid : Prop := chooseSameUptoRow.holds Try.pinned (OpenSpec.upto chooseSameSpec)

/-- 'broadsidelaw08.ChooseLists', WHERE WHAT IT READS IS OF BULK AT MOST 1048576: true; the input reads as it did. -/
def chooseListsUptoRow : OpenClaim := { program := "ytlcblcjpebabkaa", sum := "b584b710905bf33613698015e9932a9eee08bbc13b28aa40b491c67624ba3b44", func := "broadside/broadsidelaw08.ChooseLists", spec := "chooseLists", unfollowed := true, recurses := true, apart := false, narrowed := true }
def ChooseListsUptoSaid : Prop := chooseListsUptoRow.holds Try.pinned (OpenSpec.upto chooseListsSpec)

/-- 'broadsidelaw08.ChoosePrints', WHERE WHAT IT READS IS OF BULK AT MOST 1048576: true; the input reads as it did. -/
def choosePrintsUptoRow : OpenClaim := { program := "ytlcblcjpebabkaa", sum := "b584b710905bf33613698015e9932a9eee08bbc13b28aa40b491c67624ba3b44", func := "broadside/broadsidelaw08.ChoosePrints", spec := "choosePrints", unfollowed := true, recurses := true, apart := false, narrowed := true }
def ChoosePrintsUptoSaid : Prop := choosePrintsUptoRow.holds Try.pinned (OpenSpec.upto choosePrintsSpec)

/-- 'broadsidelaw08.ChooseBack', WHERE WHAT IT READS IS OF BULK AT MOST 1048576: true; the input reads as it did. -/
def chooseBackUptoRow : OpenClaim := { program := "ytlcblcjpebabkaa", sum := "b584b710905bf33613698015e9932a9eee08bbc13b28aa40b491c67624ba3b44", func := "broadside/broadsidelaw08.ChooseBack", spec := "chooseBack", unfollowed := true, recurses := true, apart := false, narrowed := true }
def ChooseBackUptoSaid : Prop := chooseBackUptoRow.holds Try.pinned (OpenSpec.upto chooseBackSpec)

end Rows
end Go.Proofs.Ytlcblcjpebabkaa
