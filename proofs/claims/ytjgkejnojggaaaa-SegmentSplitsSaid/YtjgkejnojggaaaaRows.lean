/-
  No cell of these rows narrows 'for every input' (looked for: loops, veiled, ifaces, maps, wideKeys, modest, calm, conditions, laid).
  DERIVED. THE GIVEN ROWS OF THIS SEAT. 5 by the template 'for every input the law returns true; each argument reads behind the call as it read before'; 0 by the template 'total and deterministic' (their statements: YtjgkejnojggaaaaTotals.lean).
  GIVEN WITH THE SEED: the statements are not yours to turn. If you find one false, say at which input.
  Laid BY PROGRAM, IN A SANDBOX (cutbox-rows.mjs): the forced cells as the released guide's own fill.sh prints them over the translation 109ea6a1f6bda3fd… (all of the seat's roots in one cut). By AI agents, Wed Nov 11 2026. No macro, syntax, notation, axiom, sorry.
-/
import Derived.Test.YtjgkejnojggaaaaChecked
import GoSem.Claim
import GoSem.ClaimJoined
import GoSem.ClaimMapViews
import Derived.JoinedTies
import Derived.KernelRfl
namespace Go.Proofs.Ytjgkejnojggaaaa
/- THE CELL 'sum', in the pinned program and in every row, IS THE sha256 OF THE DUMP (.gsa) THAT YtjgkejnojggaaaaProg.lean LOADS. Nothing in Lean hashes anything: it is a label: what it is worth is what the hold of that sum in a sandbox is worth. -/
noncomputable def Try.pinned : Pinned := { name := "ytjgkejnojggaaaa", sum := "109ea6a1f6bda3fdb1c925c1b9243dca6c7a7b95de70892fe8ff02133127ae18", checked := Try.checked }
namespace Rows
def none {H : Type} : Left H := { results := [], args := [] }

/-- 'broadsidelaw14.SegmentChecks': WHATEVER THE INPUT: true; the input reads as it did. -/
def segmentChecksSpec : ChangeSpec := { name := "segmentChecks", fn := fun _ => fun
  | [d1, d2] => { results := [.lit (.bool true)], args := [d1, d2] }
  | _ => none }
def segmentChecksRow : OpenClaim := { program := "ytjgkejnojggaaaa", sum := "109ea6a1f6bda3fdb1c925c1b9243dca6c7a7b95de70892fe8ff02133127ae18", func := "broadside/broadsidelaw14.SegmentChecks", spec := "segmentChecks", unfollowed := true, recurses := true, apart := false }
def SegmentChecksSaid : Prop := segmentChecksRow.holds Try.pinned (OpenSpec.ofChange segmentChecksSpec)

/-- ITS FALSE NEIGHBOUR: 'it returns false'. Refute it at one input. -/
def segmentChecksWrong : ChangeSpec := { name := "segmentChecks", fn := fun _ => fun
  | [d1, d2] => { results := [.lit (.bool false)], args := [d1, d2] }
  | _ => none }
def SegmentChecksWrongFalsely : Prop := segmentChecksRow.holds Try.pinned (OpenSpec.ofChange segmentChecksWrong)

/-- 'broadsidelaw14.SegmentWhole': WHATEVER THE INPUT: true; the input reads as it did. -/
def segmentWholeSpec : ChangeSpec := { name := "segmentWhole", fn := fun _ => fun
  | [d] => { results := [.lit (.bool true)], args := [d] }
  | _ => none }
def segmentWholeRow : OpenClaim := { program := "ytjgkejnojggaaaa", sum := "109ea6a1f6bda3fdb1c925c1b9243dca6c7a7b95de70892fe8ff02133127ae18", func := "broadside/broadsidelaw14.SegmentWhole", spec := "segmentWhole", unfollowed := true, recurses := true, apart := false }
def SegmentWholeSaid : Prop := segmentWholeRow.holds Try.pinned (OpenSpec.ofChange segmentWholeSpec)

/-- ITS FALSE NEIGHBOUR: 'it returns false'. Refute it at one input. -/
def segmentWholeWrong : ChangeSpec := { name := "segmentWhole", fn := fun _ => fun
  | [d] => { results := [.lit (.bool false)], args := [d] }
  | _ => none }
def SegmentWholeWrongFalsely : Prop := segmentWholeRow.holds Try.pinned (OpenSpec.ofChange segmentWholeWrong)

/-- 'broadsidelaw14.SegmentSplits': WHATEVER THE INPUT: true; the input reads as it did. -/
def segmentSplitsSpec : ChangeSpec := { name := "segmentSplits", fn := fun _ => fun
  | [d1, d2, d3, d4] => { results := [.lit (.bool true)], args := [d1, d2, d3, d4] }
  | _ => none }
def segmentSplitsRow : OpenClaim := { program := "ytjgkejnojggaaaa", sum := "109ea6a1f6bda3fdb1c925c1b9243dca6c7a7b95de70892fe8ff02133127ae18", func := "broadside/broadsidelaw14.SegmentSplits", spec := "segmentSplits", unfollowed := true, recurses := true, apart := false }
def SegmentSplitsSaid : Prop := segmentSplitsRow.holds Try.pinned (OpenSpec.ofChange segmentSplitsSpec)

/-- ITS FALSE NEIGHBOUR: 'it returns false'. Refute it at one input. -/
def segmentSplitsWrong : ChangeSpec := { name := "segmentSplits", fn := fun _ => fun
  | [d1, d2, d3, d4] => { results := [.lit (.bool false)], args := [d1, d2, d3, d4] }
  | _ => none }
def SegmentSplitsWrongFalsely : Prop := segmentSplitsRow.holds Try.pinned (OpenSpec.ofChange segmentSplitsWrong)

/-- 'broadsidelaw14.SegmentOne': WHATEVER THE INPUT: true; the input reads as it did. -/
def segmentOneSpec : ChangeSpec := { name := "segmentOne", fn := fun _ => fun
  | [d] => { results := [.lit (.bool true)], args := [d] }
  | _ => none }
def segmentOneRow : OpenClaim := { program := "ytjgkejnojggaaaa", sum := "109ea6a1f6bda3fdb1c925c1b9243dca6c7a7b95de70892fe8ff02133127ae18", func := "broadside/broadsidelaw14.SegmentOne", spec := "segmentOne", unfollowed := true, recurses := true, apart := false }
def SegmentOneSaid : Prop := segmentOneRow.holds Try.pinned (OpenSpec.ofChange segmentOneSpec)

/-- ITS FALSE NEIGHBOUR: 'it returns false'. Refute it at one input. -/
def segmentOneWrong : ChangeSpec := { name := "segmentOne", fn := fun _ => fun
  | [d] => { results := [.lit (.bool false)], args := [d] }
  | _ => none }
def SegmentOneWrongFalsely : Prop := segmentOneRow.holds Try.pinned (OpenSpec.ofChange segmentOneWrong)

/-- 'broadsidelaw14.SegmentTells': WHATEVER THE INPUT: true; the input reads as it did. -/
def segmentTellsSpec : ChangeSpec := { name := "segmentTells", fn := fun _ => fun
  | [d1, d2, d3] => { results := [.lit (.bool true)], args := [d1, d2, d3] }
  | _ => none }
def segmentTellsRow : OpenClaim := { program := "ytjgkejnojggaaaa", sum := "109ea6a1f6bda3fdb1c925c1b9243dca6c7a7b95de70892fe8ff02133127ae18", func := "broadside/broadsidelaw14.SegmentTells", spec := "segmentTells", unfollowed := true, recurses := true, apart := false }
def SegmentTellsSaid : Prop := segmentTellsRow.holds Try.pinned (OpenSpec.ofChange segmentTellsSpec)

/-- ITS FALSE NEIGHBOUR: 'it returns false'. Refute it at one input. -/
def segmentTellsWrong : ChangeSpec := { name := "segmentTells", fn := fun _ => fun
  | [d1, d2, d3] => { results := [.lit (.bool false)], args := [d1, d2, d3] }
  | _ => none }
def SegmentTellsWrongFalsely : Prop := segmentTellsRow.holds Try.pinned (OpenSpec.ofChange segmentTellsWrong)

/- THE SECOND FORM. 'bulk': how many values and letters a reading holds, each counted each time it is reached (what is shared counts as often as it is met; a slice's spare places count too). A statement '..UptoSaid' is the law's where the arguments, and the package variables that the reading takes, are together of bulk at most 1048576: NARROWER than '..Said'. Prove '..Said' where nothing that the law and all that it calls make is longer than what came in: it says more and counts as full. Else prove '..UptoSaid'. A law counts once. -/
mutual
def uptoBulk {H : Type} : DataW H → Nat
  | .lit (.string bytes) => bytes.length + 1
  | .lit _ => 1
  | .nil => 1
  | .ptr d => uptoBulk d + 1
  | .slice elems spare => uptoBulkAll elems + uptoBulkAll spare + 1
  | .agg parts => uptoBulkAll parts + 1
  | .iface _ d => uptoBulk d + 1
  | .map entries => uptoBulkEntries entries + 1
  | .held _ => 1
def uptoBulkAll {H : Type} : List (DataW H) → Nat
  | [] => 0
  | d :: r => uptoBulk d + uptoBulkAll r
def uptoBulkEntries {H : Type} : List (Lit × DataW H) → Nat
  | [] => 0
  | x :: r => uptoBulkEntry x + uptoBulkEntries r
def uptoBulkEntry {H : Type} : Lit × DataW H → Nat
  | (.string bytes, d) => bytes.length + uptoBulk d + 1
  | (_, d) => uptoBulk d + 1
 end
def uptoSmall : (H : Type) → List (DataW H) → Bool := fun _ ds => decide (uptoBulkAll ds ≤ 1048576)
def OpenSpec.upto (s : _root_.Go.ChangeSpec) : _root_.Go.OpenSpec := { _root_.Go.OpenSpec.ofChange s with cond := some uptoSmall }

/-- 'broadsidelaw14.SegmentChecks', WHERE WHAT IT READS IS OF BULK AT MOST 1048576: true; the input reads as it did. -/
def segmentChecksUptoRow : OpenClaim := { program := "ytjgkejnojggaaaa", sum := "109ea6a1f6bda3fdb1c925c1b9243dca6c7a7b95de70892fe8ff02133127ae18", func := "broadside/broadsidelaw14.SegmentChecks", spec := "segmentChecks", unfollowed := true, recurses := true, apart := false, narrowed := true }
def SegmentChecksUptoSaid : Prop := segmentChecksUptoRow.holds Try.pinned (OpenSpec.upto segmentChecksSpec)

/-- 'broadsidelaw14.SegmentWhole', WHERE WHAT IT READS IS OF BULK AT MOST 1048576: true; the input reads as it did. -/
def segmentWholeUptoRow : OpenClaim := { program := "ytjgkejnojggaaaa", sum := "109ea6a1f6bda3fdb1c925c1b9243dca6c7a7b95de70892fe8ff02133127ae18", func := "broadside/broadsidelaw14.SegmentWhole", spec := "segmentWhole", unfollowed := true, recurses := true, apart := false, narrowed := true }
def SegmentWholeUptoSaid : Prop := segmentWholeUptoRow.holds Try.pinned (OpenSpec.upto segmentWholeSpec)

/-- 'broadsidelaw14.SegmentSplits', WHERE WHAT IT READS IS OF BULK AT MOST 1048576: true; the input reads as it did. -/
def segmentSplitsUptoRow : OpenClaim := { program := "ytjgkejnojggaaaa", sum := "109ea6a1f6bda3fdb1c925c1b9243dca6c7a7b95de70892fe8ff02133127ae18", func := "broadside/broadsidelaw14.SegmentSplits", spec := "segmentSplits", unfollowed := true, recurses := true, apart := false, narrowed := true }
def SegmentSplitsUptoSaid : Prop := segmentSplitsUptoRow.holds Try.pinned (OpenSpec.upto segmentSplitsSpec)

/-- 'broadsidelaw14.SegmentOne', WHERE WHAT IT READS IS OF BULK AT MOST 1048576: true; the input reads as it did. -/
def segmentOneUptoRow : OpenClaim := { program := "ytjgkejnojggaaaa", sum := "109ea6a1f6bda3fdb1c925c1b9243dca6c7a7b95de70892fe8ff02133127ae18", func := "broadside/broadsidelaw14.SegmentOne", spec := "segmentOne", unfollowed := true, recurses := true, apart := false, narrowed := true }
def SegmentOneUptoSaid : Prop := segmentOneUptoRow.holds Try.pinned (OpenSpec.upto segmentOneSpec)

/-- 'broadsidelaw14.SegmentTells', WHERE WHAT IT READS IS OF BULK AT MOST 1048576: true; the input reads as it did. -/
def segmentTellsUptoRow : OpenClaim := { program := "ytjgkejnojggaaaa", sum := "109ea6a1f6bda3fdb1c925c1b9243dca6c7a7b95de70892fe8ff02133127ae18", func := "broadside/broadsidelaw14.SegmentTells", spec := "segmentTells", unfollowed := true, recurses := true, apart := false, narrowed := true }
def SegmentTellsUptoSaid : Prop := segmentTellsUptoRow.holds Try.pinned (OpenSpec.upto segmentTellsSpec)

end Rows
end Go.Proofs.Ytjgkejnojggaaaa
