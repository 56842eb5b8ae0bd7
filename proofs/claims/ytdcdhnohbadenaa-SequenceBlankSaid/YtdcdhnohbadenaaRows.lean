/-
  No cell of these rows narrows 'for every input' (looked for: loops, veiled, ifaces, maps, wideKeys, modest, calm, conditions, laid).
  DERIVED. THE GIVEN ROWS OF THIS SEAT. 4 by the template 'for every input the law returns true; each argument reads behind the call as it read before'; 0 by the template 'total and deterministic' (their statements: YtdcdhnohbadenaaTotals.lean).
  GIVEN WITH THE SEED: the statements are not yours to turn. If you find one false, say at which input.
  Laid BY PROGRAM, IN A SANDBOX (cutbox-rows.mjs): the forced cells as the released guide's own fill.sh prints them over the translation 507d04a296886b75… (all of the seat's roots in one cut). By AI agents, Wed Nov 11 2026. No macro, syntax, notation, axiom, sorry.
-/
import Derived.Test.YtdcdhnohbadenaaChecked
import GoSem.Claim
import GoSem.ClaimJoined
import GoSem.ClaimMapViews
import Derived.JoinedTies
import Derived.KernelRfl
namespace Go.Proofs.Ytdcdhnohbadenaa
/- THE CELL 'sum', in the pinned program and in every row, IS THE sha256 OF THE DUMP (.gsa) THAT YtdcdhnohbadenaaProg.lean LOADS. Nothing in Lean hashes anything: it is a label: what it is worth is what the hold of that sum in a sandbox is worth. -/
noncomputable def Try.pinned : Pinned := { name := "ytdcdhnohbadenaa", sum := "507d04a296886b7567363d2fb40fb7db35ab81dc1df1be23681860409333054f", checked := Try.checked }
namespace Rows
def none {H : Type} : Left H := { results := [], args := [] }

/-- 'broadsidelaw15.SequencePages': WHATEVER THE INPUT: true; the input reads as it did. -/
def sequencePagesSpec : ChangeSpec := { name := "sequencePages", fn := fun _ => fun
  | [d1, d2] => { results := [.lit (.bool true)], args := [d1, d2] }
  | _ => none }
def sequencePagesRow : OpenClaim := { program := "ytdcdhnohbadenaa", sum := "507d04a296886b7567363d2fb40fb7db35ab81dc1df1be23681860409333054f", func := "broadside/broadsidelaw15.SequencePages", spec := "sequencePages", unfollowed := true, recurses := true, apart := false }
def SequencePagesSaid : Prop := sequencePagesRow.holds Try.pinned (OpenSpec.ofChange sequencePagesSpec)

/-- ITS FALSE NEIGHBOUR: 'it returns false'. Refute it at one input. -/
def sequencePagesWrong : ChangeSpec := { name := "sequencePages", fn := fun _ => fun
  | [d1, d2] => { results := [.lit (.bool false)], args := [d1, d2] }
  | _ => none }
def SequencePagesWrongFalsely : Prop := sequencePagesRow.holds Try.pinned (OpenSpec.ofChange sequencePagesWrong)

/-- 'broadsidelaw15.SequenceBlank': WHATEVER THE INPUT: true; the input reads as it did. -/
def sequenceBlankSpec : ChangeSpec := { name := "sequenceBlank", fn := fun _ => fun
  | [d1, d2] => { results := [.lit (.bool true)], args := [d1, d2] }
  | _ => none }
def sequenceBlankRow : OpenClaim := { program := "ytdcdhnohbadenaa", sum := "507d04a296886b7567363d2fb40fb7db35ab81dc1df1be23681860409333054f", func := "broadside/broadsidelaw15.SequenceBlank", spec := "sequenceBlank", unfollowed := true, recurses := true, apart := false }
def SequenceBlankSaid : Prop := sequenceBlankRow.holds Try.pinned (OpenSpec.ofChange sequenceBlankSpec)

/-- ITS FALSE NEIGHBOUR: 'it returns false'. Refute it at one input. -/
def sequenceBlankWrong : ChangeSpec := { name := "sequenceBlank", fn := fun _ => fun
  | [d1, d2] => { results := [.lit (.bool false)], args := [d1, d2] }
  | _ => none }
def SequenceBlankWrongFalsely : Prop := sequenceBlankRow.holds Try.pinned (OpenSpec.ofChange sequenceBlankWrong)

/-- 'broadsidelaw15.SequenceSegments': WHATEVER THE INPUT: true; the input reads as it did. -/
def sequenceSegmentsSpec : ChangeSpec := { name := "sequenceSegments", fn := fun _ => fun
  | [d1, d2] => { results := [.lit (.bool true)], args := [d1, d2] }
  | _ => none }
def sequenceSegmentsRow : OpenClaim := { program := "ytdcdhnohbadenaa", sum := "507d04a296886b7567363d2fb40fb7db35ab81dc1df1be23681860409333054f", func := "broadside/broadsidelaw15.SequenceSegments", spec := "sequenceSegments", unfollowed := true, recurses := true, apart := false }
def SequenceSegmentsSaid : Prop := sequenceSegmentsRow.holds Try.pinned (OpenSpec.ofChange sequenceSegmentsSpec)

/-- ITS FALSE NEIGHBOUR: 'it returns false'. Refute it at one input. -/
def sequenceSegmentsWrong : ChangeSpec := { name := "sequenceSegments", fn := fun _ => fun
  | [d1, d2] => { results := [.lit (.bool false)], args := [d1, d2] }
  | _ => none }
def SequenceSegmentsWrongFalsely : Prop := sequenceSegmentsRow.holds Try.pinned (OpenSpec.ofChange sequenceSegmentsWrong)

/-- 'broadsidelaw15.SequenceAsks': WHATEVER THE INPUT: true; the input reads as it did. -/
def sequenceAsksSpec : ChangeSpec := { name := "sequenceAsks", fn := fun _ => fun
  | [d1, d2] => { results := [.lit (.bool true)], args := [d1, d2] }
  | _ => none }
def sequenceAsksRow : OpenClaim := { program := "ytdcdhnohbadenaa", sum := "507d04a296886b7567363d2fb40fb7db35ab81dc1df1be23681860409333054f", func := "broadside/broadsidelaw15.SequenceAsks", spec := "sequenceAsks", unfollowed := true, recurses := true, apart := false }
def SequenceAsksSaid : Prop := sequenceAsksRow.holds Try.pinned (OpenSpec.ofChange sequenceAsksSpec)

/-- ITS FALSE NEIGHBOUR: 'it returns false'. Refute it at one input. -/
def sequenceAsksWrong : ChangeSpec := { name := "sequenceAsks", fn := fun _ => fun
  | [d1, d2] => { results := [.lit (.bool false)], args := [d1, d2] }
  | _ => none }
def SequenceAsksWrongFalsely : Prop := sequenceAsksRow.holds Try.pinned (OpenSpec.ofChange sequenceAsksWrong)

/- THE SECOND FORM. 'bulk': how many values and letters a reading holds, each counted each time it is reached (what is shared counts as often as it is met; a slice's spare places count too). A statement '..UptoSaid' is the law's where the arguments, and the package variables that the reading takes, are together of bulk at most 1048576: NARROWER than '..Said'. Prove '..Said' where nothing that the law and all that it calls make is longer than what came in: it says more and counts as full. Else prove '..UptoSaid'. A law counts once. -/
mutual
def uptoBulk {H : Type} : DataW H → Nat
  | .lit (.string bytes) => bytes.length + 1
  | .lit _ => 1
  | .nil => 1
  | .ptr d => uptoBulk d + 1
  | .slice elems spare => uptoBulkAll elems + uptoBulkAll spare + 1
  | .agg parts => uptoBulkAll parts + 1
  | .iface _ d => uptoBulk d + 1
  | .map entries => uptoBulkEntries entries + 1
  | .held _ => 1
def uptoBulkAll {H : Type} : List (DataW H) → Nat
  | [] => 0
  | d :: r => uptoBulk d + uptoBulkAll r
def uptoBulkEntries {H : Type} : List (Lit × DataW H) → Nat
  | [] => 0
  | x :: r => uptoBulkEntry x + uptoBulkEntries r
def uptoBulkEntry {H : Type} : Lit × DataW H → Nat
  | (.string bytes, d) => bytes.length + uptoBulk d + 1
  | (_, d) => uptoBulk d + 1
 end
def uptoSmall : (H : Type) → List (DataW H) → Bool := fun _ ds => decide (uptoBulkAll ds ≤ 1048576)
def OpenSpec.upto (s : _root_.Go.ChangeSpec) : _root_.Go.OpenSpec := { _root_.Go.OpenSpec.ofChange s with cond := some uptoSmall }

/-- 'broadsidelaw15.SequencePages', WHERE WHAT IT READS IS OF BULK AT MOST 1048576: true; the input reads as it did. -/
def sequencePagesUptoRow : OpenClaim := { program := "ytdcdhnohbadenaa", sum := "507d04a296886b7567363d2fb40fb7db35ab81dc1df1be23681860409333054f", func := "broadside/broadsidelaw15.SequencePages", spec := "sequencePages", unfollowed := true, recurses := true, apart := false, narrowed := true }
def SequencePagesUptoSaid : Prop := sequencePagesUptoRow.holds Try.pinned (OpenSpec.upto sequencePagesSpec)

/-- 'broadsidelaw15.SequenceBlank', WHERE WHAT IT READS IS OF BULK AT MOST 1048576: true; the input reads as it did. -/
def sequenceBlankUptoRow : OpenClaim := { program := "ytdcdhnohbadenaa", sum := "507d04a296886b7567363d2fb40fb7db35ab81dc1df1be23681860409333054f", func := "broadside/broadsidelaw15.SequenceBlank", spec := "sequenceBlank", unfollowed := true, recurses := true, apart := false, narrowed := true }
def SequenceBlankUptoSaid : Prop := sequenceBlankUptoRow.holds Try.pinned (OpenSpec.upto sequenceBlankSpec)

/-- 'broadsidelaw15.SequenceSegments', WHERE WHAT IT READS IS OF BULK AT MOST 1048576: true; the input reads as it did. -/
def sequenceSegmentsUptoRow : OpenClaim := { program := "ytdcdhnohbadenaa", sum := "507d04a296886b7567363d2fb40fb7db35ab81dc1df1be23681860409333054f", func := "broadside/broadsidelaw15.SequenceSegments", spec := "sequenceSegments", unfollowed := true, recurses := true, apart := false, narrowed := true }
def SequenceSegmentsUptoSaid : Prop := sequenceSegmentsUptoRow.holds Try.pinned (OpenSpec.upto sequenceSegmentsSpec)

/-- 'broadsidelaw15.SequenceAsks', WHERE WHAT IT READS IS OF BULK AT MOST 1048576: true; the input reads as it did. -/
def sequenceAsksUptoRow : OpenClaim := { program := "ytdcdhnohbadenaa", sum := "507d04a296886b7567363d2fb40fb7db35ab81dc1df1be23681860409333054f", func := "broadside/broadsidelaw15.SequenceAsks", spec := "sequenceAsks", unfollowed := true, recurses := true, apart := false, narrowed := true }
def SequenceAsksUptoSaid : Prop := sequenceAsksUptoRow.holds Try.pinned (OpenSpec.upto sequenceAsksSpec)

end Rows
end Go.Proofs.Ytdcdhnohbadenaa
