/-
  No cell of these rows narrows 'for every input' (looked for: loops, veiled, ifaces, maps, wideKeys, modest, calm, conditions, laid).
  DERIVED. THE GIVEN ROWS OF THIS SEAT. 6 by the template 'for every input the law returns true; each argument reads behind the call as it read before'; 0 by the template 'total and deterministic' (their statements: YtcjephhkgccmgaaTotals.lean).
  GIVEN WITH THE SEED: the statements are not yours to turn. If you find one false, say at which input.
  Laid BY PROGRAM, IN A SANDBOX (cutbox-rows.mjs): the forced cells as the released guide's own fill.sh prints them over the translation 9199b238502e3a90… (all of the seat's roots in one cut). By AI agents, Wed Nov 11 2026. No macro, syntax, notation, axiom, sorry.
-/
import Derived.Test.YtcjephhkgccmgaaChecked
import GoSem.Claim
import GoSem.ClaimJoined
import GoSem.ClaimMapViews
import Derived.JoinedTies
import Derived.KernelRfl
namespace Go.Proofs.Ytcjephhkgccmgaa
/- THE CELL 'sum', in the pinned program and in every row, IS THE sha256 OF THE DUMP (.gsa) THAT YtcjephhkgccmgaaProg.lean LOADS. Nothing in Lean hashes anything: it is a label: what it is worth is what the hold of that sum in a sandbox is worth. -/
noncomputable def Try.pinned : Pinned := { name := "ytcjephhkgccmgaa", sum := "9199b238502e3a90a7ce5da7113e422544f32316a85e684ca3aaf8a42ce2c32c", checked := Try.checked }
namespace Rows
def none {H : Type} : Left H := { results := [], args := [] }

/-- 'broadsidelaw10.MatchIs': WHATEVER THE INPUT: true; the input reads as it did. -/
def matchIsSpec : ChangeSpec := { name := "matchIs", fn := fun _ => fun
  | [d1, d2, d3] => { results := [.lit (.bool true)], args := [d1, d2, d3] }
  | _ => none }
def matchIsRow : OpenClaim := { program := "ytcjephhkgccmgaa", sum := "9199b238502e3a90a7ce5da7113e422544f32316a85e684ca3aaf8a42ce2c32c", func := "broadside/broadsidelaw10.MatchIs", spec := "matchIs", unfollowed := true, recurses := true, apart := false }
def MatchIsSaid : Prop := matchIsRow.holds Try.pinned (OpenSpec.ofChange matchIsSpec)

/-- ITS FALSE NEIGHBOUR: 'it returns false'. Refute it at one input. -/
def matchIsWrong : ChangeSpec := { name := "matchIs", fn := fun _ => fun
  | [d1, d2, d3] => { results := [.lit (.bool false)], args := [d1, d2, d3] }
  | _ => none }
def MatchIsWrongFalsely : Prop := matchIsRow.holds Try.pinned (OpenSpec.ofChange matchIsWrong)

/-- 'broadsidelaw10.MatchBest': WHATEVER THE INPUT: true; the input reads as it did. -/
def matchBestSpec : ChangeSpec := { name := "matchBest", fn := fun _ => fun
  | [d1, d2, d3] => { results := [.lit (.bool true)], args := [d1, d2, d3] }
  | _ => none }
def matchBestRow : OpenClaim := { program := "ytcjephhkgccmgaa", sum := "9199b238502e3a90a7ce5da7113e422544f32316a85e684ca3aaf8a42ce2c32c", func := "broadside/broadsidelaw10.MatchBest", spec := "matchBest", unfollowed := true, recurses := true, apart := false }
def MatchBestSaid : Prop := matchBestRow.holds Try.pinned (OpenSpec.ofChange matchBestSpec)

/-- ITS FALSE NEIGHBOUR: 'it returns false'. Refute it at one input. -/
def matchBestWrong : ChangeSpec := { name := "matchBest", fn := fun _ => fun
  | [d1, d2, d3] => { results := [.lit (.bool false)], args := [d1, d2, d3] }
  | _ => none }
def MatchBestWrongFalsely : Prop := matchBestRow.holds Try.pinned (OpenSpec.ofChange matchBestWrong)

/-- 'broadsidelaw10.MatchAbove': WHATEVER THE INPUT: true; the input reads as it did. -/
def matchAboveSpec : ChangeSpec := { name := "matchAbove", fn := fun _ => fun
  | [d1, d2, d3] => { results := [.lit (.bool true)], args := [d1, d2, d3] }
  | _ => none }
def matchAboveRow : OpenClaim := { program := "ytcjephhkgccmgaa", sum := "9199b238502e3a90a7ce5da7113e422544f32316a85e684ca3aaf8a42ce2c32c", func := "broadside/broadsidelaw10.MatchAbove", spec := "matchAbove", unfollowed := true, recurses := true, apart := false }
def MatchAboveSaid : Prop := matchAboveRow.holds Try.pinned (OpenSpec.ofChange matchAboveSpec)

/-- ITS FALSE NEIGHBOUR: 'it returns false'. Refute it at one input. -/
def matchAboveWrong : ChangeSpec := { name := "matchAbove", fn := fun _ => fun
  | [d1, d2, d3] => { results := [.lit (.bool false)], args := [d1, d2, d3] }
  | _ => none }
def MatchAboveWrongFalsely : Prop := matchAboveRow.holds Try.pinned (OpenSpec.ofChange matchAboveWrong)

/-- 'broadsidelaw10.MatchLast': WHATEVER THE INPUT: true; the input reads as it did. -/
def matchLastSpec : ChangeSpec := { name := "matchLast", fn := fun _ => fun
  | [d1, d2, d3] => { results := [.lit (.bool true)], args := [d1, d2, d3] }
  | _ => none }
def matchLastRow : OpenClaim := { program := "ytcjephhkgccmgaa", sum := "9199b238502e3a90a7ce5da7113e422544f32316a85e684ca3aaf8a42ce2c32c", func := "broadside/broadsidelaw10.MatchLast", spec := "matchLast", unfollowed := true, recurses := true, apart := false }
def MatchLastSaid : Prop := matchLastRow.holds Try.pinned (OpenSpec.ofChange matchLastSpec)

/-- ITS FALSE NEIGHBOUR: 'it returns false'. Refute it at one input. -/
def matchLastWrong : ChangeSpec := { name := "matchLast", fn := fun _ => fun
  | [d1, d2, d3] => { results := [.lit (.bool false)], args := [d1, d2, d3] }
  | _ => none }
def MatchLastWrongFalsely : Prop := matchLastRow.holds Try.pinned (OpenSpec.ofChange matchLastWrong)

/-- 'broadsidelaw10.MatchAny': WHATEVER THE INPUT: true; the input reads as it did. -/
def matchAnySpec : ChangeSpec := { name := "matchAny", fn := fun _ => fun
  | [d1, d2, d3] => { results := [.lit (.bool true)], args := [d1, d2, d3] }
  | _ => none }
def matchAnyRow : OpenClaim := { program := "ytcjephhkgccmgaa", sum := "9199b238502e3a90a7ce5da7113e422544f32316a85e684ca3aaf8a42ce2c32c", func := "broadside/broadsidelaw10.MatchAny", spec := "matchAny", unfollowed := true, recurses := true, apart := false }
def MatchAnySaid : Prop := matchAnyRow.holds Try.pinned (OpenSpec.ofChange matchAnySpec)

/-- ITS FALSE NEIGHBOUR: 'it returns false'. Refute it at one input. -/
def matchAnyWrong : ChangeSpec := { name := "matchAny", fn := fun _ => fun
  | [d1, d2, d3] => { results := [.lit (.bool false)], args := [d1, d2, d3] }
  | _ => none }
def MatchAnyWrongFalsely : Prop := matchAnyRow.holds Try.pinned (OpenSpec.ofChange matchAnyWrong)

/-- 'broadsidelaw10.MatchBelow': WHATEVER THE INPUT: true; the input reads as it did. -/
def matchBelowSpec : ChangeSpec := { name := "matchBelow", fn := fun _ => fun
  | [d1, d2] => { results := [.lit (.bool true)], args := [d1, d2] }
  | _ => none }
def matchBelowRow : OpenClaim := { program := "ytcjephhkgccmgaa", sum := "9199b238502e3a90a7ce5da7113e422544f32316a85e684ca3aaf8a42ce2c32c", func := "broadside/broadsidelaw10.MatchBelow", spec := "matchBelow", unfollowed := true, recurses := true, apart := false }
def MatchBelowSaid : Prop := matchBelowRow.holds Try.pinned (OpenSpec.ofChange matchBelowSpec)

/-- ITS FALSE NEIGHBOUR: 'it returns false'. Refute it at one input. -/
def matchBelowWrong : ChangeSpec := { name := "matchBelow", fn := fun _ => fun
  | [d1, d2] => { results := [.lit (.bool false)], args := [d1, d2] }
  | _ => none }
def MatchBelowWrongFalsely : Prop := matchBelowRow.holds Try.pinned (OpenSpec.ofChange matchBelowWrong)

/- THE SECOND FORM. 'bulk': how many values and letters a reading holds, each counted each time it is reached (what is shared counts as often as it is met; a slice's spare places count too). A statement '..UptoSaid' is the law's where the arguments, and the package variables that the reading takes, are together of bulk at most 1048576: NARROWER than '..Said'. Prove '..Said' where nothing that the law and all that it calls make is longer than what came in: it says more and counts as full. Else prove '..UptoSaid'. A law counts once. -/
mutual
def uptoBulk {H : Type} : DataW H → Nat
  | .lit (.string bytes) => bytes.length + 1
  | .lit _ => 1
  | .nil => 1
  | .ptr d => uptoBulk d + 1
  | .slice elems spare => uptoBulkAll elems + uptoBulkAll spare + 1
  | .agg parts => uptoBulkAll parts + 1
  | .iface _ d => uptoBulk d + 1
  | .map entries => uptoBulkEntries entries + 1
  | .held _ => 1
def uptoBulkAll {H : Type} : List (DataW H) → Nat
  | [] => 0
  | d :: r => uptoBulk d + uptoBulkAll r
def uptoBulkEntries {H : Type} : List (Lit × DataW H) → Nat
  | [] => 0
  | x :: r => uptoBulkEntry x + uptoBulkEntries r
def uptoBulkEntry {H : Type} : Lit × DataW H → Nat
  | (.string bytes, d) => bytes.length + uptoBulk d + 1
  | (_, d) => uptoBulk d + 1
 end
def uptoSmall : (H : Type) → List (DataW H) → Bool := fun _ ds => decide (uptoBulkAll ds ≤ 1048576)
def OpenSpec.upto (s : _root_.Go.ChangeSpec) : _root_.Go.OpenSpec := { _root_.Go.OpenSpec.ofChange s with cond := some uptoSmall }

/-- 'broadsidelaw10.MatchIs', WHERE WHAT IT READS IS OF BULK AT MOST 1048576: true; the input reads as it did. -/
def matchIsUptoRow : OpenClaim := { program := "ytcjephhkgccmgaa", sum := "9199b238502e3a90a7ce5da7113e422544f32316a85e684ca3aaf8a42ce2c32c", func := "broadside/broadsidelaw10.MatchIs", spec := "matchIs", unfollowed := true, recurses := true, apart := false, narrowed := true }
def MatchIsUptoSaid : Prop := matchIsUptoRow.holds Try.pinned (OpenSpec.upto matchIsSpec)

/-- 'broadsidelaw10.MatchBest', WHERE WHAT IT READS IS OF BULK AT MOST 1048576: true; the input reads as it did. -/
def matchBestUptoRow : OpenClaim := { program := "ytcjephhkgccmgaa", sum := "9199b238502e3a90a7ce5da7113e422544f32316a85e684ca3aaf8a42ce2c32c", func := "broadside/broadsidelaw10.MatchBest", spec := "matchBest", unfollowed := true, recurses := true, apart := false, narrowed := true }
def MatchBestUptoSaid : Prop := matchBestUptoRow.holds Try.pinned (OpenSpec.upto matchBestSpec)

/-- 'broadsidelaw10.MatchAbove', WHERE WHAT IT READS IS OF BULK AT MOST 1048576: true; the input reads as it did. -/
def matchAboveUptoRow : OpenClaim := { program := "ytcjephhkgccmgaa", sum := "9199b238502e3a90a7ce5da7113e422544f32316a85e684ca3aaf8a42ce2c32c", func := "broadside/broadsidelaw10.MatchAbove", spec := "matchAbove", unfollowed := true, recurses := true, apart := false, narrowed := true }
def MatchAboveUptoSaid : Prop := matchAboveUptoRow.holds Try.pinned (OpenSpec.upto matchAboveSpec)

/-- 'broadsidelaw10.MatchLast', WHERE WHAT IT READS IS OF BULK AT MOST 1048576: true; the input reads as it did. -/
def matchLastUptoRow : OpenClaim := { program := "ytcjephhkgccmgaa", sum := "9199b238502e3a90a7ce5da7113e422544f32316a85e684ca3aaf8a42ce2c32c", func := "broadside/broadsidelaw10.MatchLast", spec := "matchLast", unfollowed := true, recurses := true, apart := false, narrowed := true }
def MatchLastUptoSaid : Prop := matchLastUptoRow.holds Try.pinned (OpenSpec.upto matchLastSpec)

/-- 'broadsidelaw10.MatchAny', WHERE WHAT IT READS IS OF BULK AT MOST 1048576: true; the input reads as it did. -/
def matchAnyUptoRow : OpenClaim := { program := "ytcjephhkgccmgaa", sum := "9199b238502e3a90a7ce5da7113e422544f32316a85e684ca3aaf8a42ce2c32c", func := "broadside/broadsidelaw10.MatchAny", spec := "matchAny", unfollowed := true, recurses := true, apart := false, narrowed := true }
def MatchAnyUptoSaid : Prop := matchAnyUptoRow.holds Try.pinned (OpenSpec.upto matchAnySpec)

/-- 'broadsidelaw10.MatchBelow', WHERE WHAT IT READS IS OF BULK AT MOST 1048576: true; the input reads as it did. -/
def matchBelowUptoRow : OpenClaim := { program := "ytcjephhkgccmgaa", sum := "9199b238502e3a90a7ce5da7113e422544f32316a85e684ca3aaf8a42ce2c32c", func := "broadside/broadsidelaw10.MatchBelow", spec := "matchBelow", unfollowed := true, recurses := true, apart := false, narrowed := true }
def MatchBelowUptoSaid : Prop := matchBelowUptoRow.holds Try.pinned (OpenSpec.upto matchBelowSpec)

end Rows
end Go.Proofs.Ytcjephhkgccmgaa
