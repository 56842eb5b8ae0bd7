/-
  No cell of these rows narrows 'for every input' (looked for: loops, veiled, ifaces, maps, wideKeys, modest, calm, conditions, laid).
  DERIVED. THE GIVEN ROWS OF THIS SEAT. 6 by the template 'for every input the law returns true; each argument reads behind the call as it read before'; 0 by the template 'total and deterministic' (their statements: YtdpmcckoodeofaaTotals.lean).
  GIVEN WITH THE SEED: the statements are not yours to turn. If you find one false, say at which input.
  Laid BY PROGRAM, IN A SANDBOX (cutbox-rows.mjs): the forced cells as the released guide's own fill.sh prints them over the translation 360b465a73df9b39… (all of the seat's roots in one cut). By AI agents, Wed Nov 11 2026. No macro, syntax, notation, axiom, sorry.
-/
import Derived.Test.YtdpmcckoodeofaaChecked
import GoSem.Claim
import GoSem.ClaimJoined
import GoSem.ClaimMapViews
import Derived.JoinedTies
import Derived.KernelRfl
namespace Go.Proofs.Ytdpmcckoodeofaa
/- THE CELL 'sum', in the pinned program and in every row, IS THE sha256 OF THE DUMP (.gsa) THAT YtdpmcckoodeofaaProg.lean LOADS. Nothing in Lean hashes anything: it is a label: what it is worth is what the hold of that sum in a sandbox is worth. -/
noncomputable def Try.pinned : Pinned := { name := "ytdpmcckoodeofaa", sum := "360b465a73df9b39f04ae5a77d45740617c96fd1c65927ac6897704ca0b9e3dc", checked := Try.checked }
namespace Rows
def none {H : Type} : Left H := { results := [], args := [] }

/-- 'broadsidelaw05.NestEnds': WHATEVER THE INPUT: true; the input reads as it did. -/
def nestEndsSpec : ChangeSpec := { name := "nestEnds", fn := fun _ => fun
  | [d] => { results := [.lit (.bool true)], args := [d] }
  | _ => none }
def nestEndsRow : OpenClaim := { program := "ytdpmcckoodeofaa", sum := "360b465a73df9b39f04ae5a77d45740617c96fd1c65927ac6897704ca0b9e3dc", func := "broadside/broadsidelaw05.NestEnds", spec := "nestEnds", unfollowed := true, recurses := true, apart := false }
def NestEndsSaid : Prop := nestEndsRow.holds Try.pinned (OpenSpec.ofChange nestEndsSpec)

/-- ITS FALSE NEIGHBOUR: 'it returns false'. Refute it at one input. -/
def nestEndsWrong : ChangeSpec := { name := "nestEnds", fn := fun _ => fun
  | [d] => { results := [.lit (.bool false)], args := [d] }
  | _ => none }
def NestEndsWrongFalsely : Prop := nestEndsRow.holds Try.pinned (OpenSpec.ofChange nestEndsWrong)

/-- 'broadsidelaw05.NestSkips': WHATEVER THE INPUT: true; the input reads as it did. -/
def nestSkipsSpec : ChangeSpec := { name := "nestSkips", fn := fun _ => fun
  | [d1, d2] => { results := [.lit (.bool true)], args := [d1, d2] }
  | _ => none }
def nestSkipsRow : OpenClaim := { program := "ytdpmcckoodeofaa", sum := "360b465a73df9b39f04ae5a77d45740617c96fd1c65927ac6897704ca0b9e3dc", func := "broadside/broadsidelaw05.NestSkips", spec := "nestSkips", unfollowed := true, recurses := true, apart := false }
def NestSkipsSaid : Prop := nestSkipsRow.holds Try.pinned (OpenSpec.ofChange nestSkipsSpec)

/-- ITS FALSE NEIGHBOUR: 'it returns false'. Refute it at one input. -/
def nestSkipsWrong : ChangeSpec := { name := "nestSkips", fn := fun _ => fun
  | [d1, d2] => { results := [.lit (.bool false)], args := [d1, d2] }
  | _ => none }
def NestSkipsWrongFalsely : Prop := nestSkipsRow.holds Try.pinned (OpenSpec.ofChange nestSkipsWrong)

/-- 'broadsidelaw05.NestWithin': WHATEVER THE INPUT: true; the input reads as it did. -/
def nestWithinSpec : ChangeSpec := { name := "nestWithin", fn := fun _ => fun
  | [d] => { results := [.lit (.bool true)], args := [d] }
  | _ => none }
def nestWithinRow : OpenClaim := { program := "ytdpmcckoodeofaa", sum := "360b465a73df9b39f04ae5a77d45740617c96fd1c65927ac6897704ca0b9e3dc", func := "broadside/broadsidelaw05.NestWithin", spec := "nestWithin", unfollowed := true, recurses := true, apart := false }
def NestWithinSaid : Prop := nestWithinRow.holds Try.pinned (OpenSpec.ofChange nestWithinSpec)

/-- ITS FALSE NEIGHBOUR: 'it returns false'. Refute it at one input. -/
def nestWithinWrong : ChangeSpec := { name := "nestWithin", fn := fun _ => fun
  | [d] => { results := [.lit (.bool false)], args := [d] }
  | _ => none }
def NestWithinWrongFalsely : Prop := nestWithinRow.holds Try.pinned (OpenSpec.ofChange nestWithinWrong)

/-- 'broadsidelaw05.NestDeep': WHATEVER THE INPUT: true; the input reads as it did. -/
def nestDeepSpec : ChangeSpec := { name := "nestDeep", fn := fun _ => fun
  | [d1, d2] => { results := [.lit (.bool true)], args := [d1, d2] }
  | _ => none }
def nestDeepRow : OpenClaim := { program := "ytdpmcckoodeofaa", sum := "360b465a73df9b39f04ae5a77d45740617c96fd1c65927ac6897704ca0b9e3dc", func := "broadside/broadsidelaw05.NestDeep", spec := "nestDeep", unfollowed := true, recurses := true, apart := false }
def NestDeepSaid : Prop := nestDeepRow.holds Try.pinned (OpenSpec.ofChange nestDeepSpec)

/-- ITS FALSE NEIGHBOUR: 'it returns false'. Refute it at one input. -/
def nestDeepWrong : ChangeSpec := { name := "nestDeep", fn := fun _ => fun
  | [d1, d2] => { results := [.lit (.bool false)], args := [d1, d2] }
  | _ => none }
def NestDeepWrongFalsely : Prop := nestDeepRow.holds Try.pinned (OpenSpec.ofChange nestDeepWrong)

/-- 'broadsidelaw05.NestPlain': WHATEVER THE INPUT: true; the input reads as it did. -/
def nestPlainSpec : ChangeSpec := { name := "nestPlain", fn := fun _ => fun
  | [d1, d2] => { results := [.lit (.bool true)], args := [d1, d2] }
  | _ => none }
def nestPlainRow : OpenClaim := { program := "ytdpmcckoodeofaa", sum := "360b465a73df9b39f04ae5a77d45740617c96fd1c65927ac6897704ca0b9e3dc", func := "broadside/broadsidelaw05.NestPlain", spec := "nestPlain", unfollowed := true, recurses := true, apart := false }
def NestPlainSaid : Prop := nestPlainRow.holds Try.pinned (OpenSpec.ofChange nestPlainSpec)

/-- ITS FALSE NEIGHBOUR: 'it returns false'. Refute it at one input. -/
def nestPlainWrong : ChangeSpec := { name := "nestPlain", fn := fun _ => fun
  | [d1, d2] => { results := [.lit (.bool false)], args := [d1, d2] }
  | _ => none }
def NestPlainWrongFalsely : Prop := nestPlainRow.holds Try.pinned (OpenSpec.ofChange nestPlainWrong)

/-- 'broadsidelaw05.NestCloses': WHATEVER THE INPUT: true; the input reads as it did. -/
def nestClosesSpec : ChangeSpec := { name := "nestCloses", fn := fun _ => fun
  | [d] => { results := [.lit (.bool true)], args := [d] }
  | _ => none }
def nestClosesRow : OpenClaim := { program := "ytdpmcckoodeofaa", sum := "360b465a73df9b39f04ae5a77d45740617c96fd1c65927ac6897704ca0b9e3dc", func := "broadside/broadsidelaw05.NestCloses", spec := "nestCloses", unfollowed := true, recurses := true, apart := false }
def NestClosesSaid : Prop := nestClosesRow.holds Try.pinned (OpenSpec.ofChange nestClosesSpec)

/-- ITS FALSE NEIGHBOUR: 'it returns false'. Refute it at one input. -/
def nestClosesWrong : ChangeSpec := { name := "nestCloses", fn := fun _ => fun
  | [d] => { results := [.lit (.bool false)], args := [d] }
  | _ => none }
def NestClosesWrongFalsely : Prop := nestClosesRow.holds Try.pinned (OpenSpec.ofChange nestClosesWrong)

/- THE SECOND FORM. 'bulk': how many values and letters a reading holds, each counted each time it is reached (what is shared counts as often as it is met; a slice's spare places count too). A statement '..UptoSaid' is the law's where the arguments, and the package variables that the reading takes, are together of bulk at most 1048576: NARROWER than '..Said'. Prove '..Said' where nothing that the law and all that it calls make is longer than what came in: it says more and counts as full. Else prove '..UptoSaid'. A law counts once. -/
mutual
def uptoBulk {H : Type} : DataW H → Nat
  | .lit (.string bytes) => bytes.length + 1
  | .lit _ => 1
  | .nil => 1
  | .ptr d => uptoBulk d + 1
  | .slice elems spare => uptoBulkAll elems + uptoBulkAll spare + 1
  | .agg parts => uptoBulkAll parts + 1
  | .iface _ d => uptoBulk d + 1
  | .map entries => uptoBulkEntries entries + 1
  | .held _ => 1
def uptoBulkAll {H : Type} : List (DataW H) → Nat
  | [] => 0
  | d :: r => uptoBulk d + uptoBulkAll r
def uptoBulkEntries {H : Type} : List (Lit × DataW H) → Nat
  | [] => 0
  | x :: r => uptoBulkEntry x + uptoBulkEntries r
def uptoBulkEntry {H : Type} : Lit × DataW H → Nat
  | (.string bytes, d) => bytes.length + uptoBulk d + 1
  | (_, d) => uptoBulk d + 1
 end
def uptoSmall : (H : Type) → List (DataW H) → Bool := fun _ ds => decide (uptoBulkAll ds ≤ 1048576)
def OpenSpec.upto (s : _root_.Go.ChangeSpec) : _root_.Go.OpenSpec := { _root_.Go.OpenSpec.ofChange s with cond := some uptoSmall }

/-- 'broadsidelaw05.NestEnds', WHERE WHAT IT READS IS OF BULK AT MOST 1048576: true; the input reads as it did. -/
def nestEndsUptoRow : OpenClaim := { program := "ytdpmcckoodeofaa", sum := "360b465a73df9b39f04ae5a77d45740617c96fd1c65927ac6897704ca0b9e3dc", func := "broadside/broadsidelaw05.NestEnds", spec := "nestEnds", unfollowed := true, recurses := true, apart := false, narrowed := true }
def NestEndsUptoSaid : Prop := nestEndsUptoRow.holds Try.pinned (OpenSpec.upto nestEndsSpec)

/-- 'broadsidelaw05.NestSkips', WHERE WHAT IT READS IS OF BULK AT MOST 1048576: true; the input reads as it did. -/
def nestSkipsUptoRow : OpenClaim := { program := "ytdpmcckoodeofaa", sum := "360b465a73df9b39f04ae5a77d45740617c96fd1c65927ac6897704ca0b9e3dc", func := "broadside/broadsidelaw05.NestSkips", spec := "nestSkips", unfollowed := true, recurses := true, apart := false, narrowed := true }
def NestSkipsUptoSaid : Prop := nestSkipsUptoRow.holds Try.pinned (OpenSpec.upto nestSkipsSpec)

/-- 'broadsidelaw05.NestWithin', WHERE WHAT IT READS IS OF BULK AT MOST 1048576: true; the input reads as it did. -/
def nestWithinUptoRow : OpenClaim := { program := "ytdpmcckoodeofaa", sum := "360b465a73df9b39f04ae5a77d45740617c96fd1c65927ac6897704ca0b9e3dc", func := "broadside/broadsidelaw05.NestWithin", spec := "nestWithin", unfollowed := true, recurses := true, apart := false, narrowed := true }
def NestWithinUptoSaid : Prop := nestWithinUptoRow.holds Try.pinned (OpenSpec.upto nestWithinSpec)

/-- 'broadsidelaw05.NestDeep', WHERE WHAT IT READS IS OF BULK AT MOST 1048576: true; the input reads as it did. -/
def nestDeepUptoRow : OpenClaim := { program := "ytdpmcckoodeofaa", sum := "360b465a73df9b39f04ae5a77d45740617c96fd1c65927ac6897704ca0b9e3dc", func := "broadside/broadsidelaw05.NestDeep", spec := "nestDeep", unfollowed := true, recurses := true, apart := false, narrowed := true }
def NestDeepUptoSaid : Prop := nestDeepUptoRow.holds Try.pinned (OpenSpec.upto nestDeepSpec)

/-- 'broadsidelaw05.NestPlain', WHERE WHAT IT READS IS OF BULK AT MOST 1048576: true; the input reads as it did. -/
def nestPlainUptoRow : OpenClaim := { program := "ytdpmcckoodeofaa", sum := "360b465a73df9b39f04ae5a77d45740617c96fd1c65927ac6897704ca0b9e3dc", func := "broadside/broadsidelaw05.NestPlain", spec := "nestPlain", unfollowed := true, recurses := true, apart := false, narrowed := true }
def NestPlainUptoSaid : Prop := nestPlainUptoRow.holds Try.pinned (OpenSpec.upto nestPlainSpec)

/-- 'broadsidelaw05.NestCloses', WHERE WHAT IT READS IS OF BULK AT MOST 1048576: true; the input reads as it did. -/
def nestClosesUptoRow : OpenClaim := { program := "ytdpmcckoodeofaa", sum := "360b465a73df9b39f04ae5a77d45740617c96fd1c65927ac6897704ca0b9e3dc", func := "broadside/broadsidelaw05.NestCloses", spec := "nestCloses", unfollowed := true, recurses := true, apart := false, narrowed := true }
def NestClosesUptoSaid : Prop := nestClosesUptoRow.holds Try.pinned (OpenSpec.upto nestClosesSpec)

end Rows
end Go.Proofs.Ytdpmcckoodeofaa
