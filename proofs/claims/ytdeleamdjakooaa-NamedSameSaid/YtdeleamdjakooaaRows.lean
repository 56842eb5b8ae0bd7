/-
  No cell of these rows narrows 'for every input' (looked for: loops, veiled, ifaces, maps, wideKeys, modest, calm, conditions, laid).
  DERIVED. THE GIVEN ROWS OF THIS SEAT. 6 by the template 'for every input the law returns true; each argument reads behind the call as it read before'; 0 by the template 'total and deterministic' (their statements: YtdeleamdjakooaaTotals.lean).
  GIVEN WITH THE SEED: the statements are not yours to turn. If you find one false, say at which input.
  Laid BY PROGRAM, IN A SANDBOX (cutbox-rows.mjs): the forced cells as the released guide's own fill.sh prints them over the translation ea69f82e2bc2bed6… (all of the seat's roots in one cut). By AI agents, Wed Nov 11 2026. No macro, syntax, notation, axiom, sorry.
-/
import Derived.Test.YtdeleamdjakooaaChecked
import GoSem.Claim
import GoSem.ClaimJoined
import GoSem.ClaimMapViews
import Derived.JoinedTies
import Derived.KernelRfl
namespace Go.Proofs.Ytdeleamdjakooaa
/- THE CELL 'sum', in the pinned program and in every row, IS THE sha256 OF THE DUMP (.gsa) THAT YtdeleamdjakooaaProg.lean LOADS. Nothing in Lean hashes anything: it is a label: what it is worth is what the hold of that sum in a sandbox is worth. -/
noncomputable def Try.pinned : Pinned := { name := "ytdeleamdjakooaa", sum := "ea69f82e2bc2bed69663cc6b84a93f86f51731e0fd98353c55ee5de5f0e2fa6b", checked := Try.checked }
namespace Rows
def none {H : Type} : Left H := { results := [], args := [] }

/-- 'broadsidelaw13.NamedTells': WHATEVER THE INPUT: true; the input reads as it did. -/
def namedTellsSpec : ChangeSpec := { name := "namedTells", fn := fun _ => fun
  | [d1, d2] => { results := [.lit (.bool true)], args := [d1, d2] }
  | _ => none }
def namedTellsRow : OpenClaim := { program := "ytdeleamdjakooaa", sum := "ea69f82e2bc2bed69663cc6b84a93f86f51731e0fd98353c55ee5de5f0e2fa6b", func := "broadside/broadsidelaw13.NamedTells", spec := "namedTells", unfollowed := true, recurses := true, apart := false }
def NamedTellsSaid : Prop := namedTellsRow.holds Try.pinned (OpenSpec.ofChange namedTellsSpec)

/-- ITS FALSE NEIGHBOUR: 'it returns false'. Refute it at one input. -/
def namedTellsWrong : ChangeSpec := { name := "namedTells", fn := fun _ => fun
  | [d1, d2] => { results := [.lit (.bool false)], args := [d1, d2] }
  | _ => none }
def NamedTellsWrongFalsely : Prop := namedTellsRow.holds Try.pinned (OpenSpec.ofChange namedTellsWrong)

/-- 'broadsidelaw13.NamedFirst': WHATEVER THE INPUT: true; the input reads as it did. -/
def namedFirstSpec : ChangeSpec := { name := "namedFirst", fn := fun _ => fun
  | [d] => { results := [.lit (.bool true)], args := [d] }
  | _ => none }
def namedFirstRow : OpenClaim := { program := "ytdeleamdjakooaa", sum := "ea69f82e2bc2bed69663cc6b84a93f86f51731e0fd98353c55ee5de5f0e2fa6b", func := "broadside/broadsidelaw13.NamedFirst", spec := "namedFirst", unfollowed := true, recurses := true, apart := false }
def NamedFirstSaid : Prop := namedFirstRow.holds Try.pinned (OpenSpec.ofChange namedFirstSpec)

/-- ITS FALSE NEIGHBOUR: 'it returns false'. Refute it at one input. -/
def namedFirstWrong : ChangeSpec := { name := "namedFirst", fn := fun _ => fun
  | [d] => { results := [.lit (.bool false)], args := [d] }
  | _ => none }
def NamedFirstWrongFalsely : Prop := namedFirstRow.holds Try.pinned (OpenSpec.ofChange namedFirstWrong)

/-- 'broadsidelaw13.NamedRows': WHATEVER THE INPUT: true; the input reads as it did. -/
def namedRowsSpec : ChangeSpec := { name := "namedRows", fn := fun _ => fun
  | [d] => { results := [.lit (.bool true)], args := [d] }
  | _ => none }
def namedRowsRow : OpenClaim := { program := "ytdeleamdjakooaa", sum := "ea69f82e2bc2bed69663cc6b84a93f86f51731e0fd98353c55ee5de5f0e2fa6b", func := "broadside/broadsidelaw13.NamedRows", spec := "namedRows", unfollowed := true, recurses := true, apart := false }
def NamedRowsSaid : Prop := namedRowsRow.holds Try.pinned (OpenSpec.ofChange namedRowsSpec)

/-- ITS FALSE NEIGHBOUR: 'it returns false'. Refute it at one input. -/
def namedRowsWrong : ChangeSpec := { name := "namedRows", fn := fun _ => fun
  | [d] => { results := [.lit (.bool false)], args := [d] }
  | _ => none }
def NamedRowsWrongFalsely : Prop := namedRowsRow.holds Try.pinned (OpenSpec.ofChange namedRowsWrong)

/-- 'broadsidelaw13.NamedAuto': WHATEVER THE INPUT: true; the input reads as it did. -/
def namedAutoSpec : ChangeSpec := { name := "namedAuto", fn := fun _ => fun
  | [d1, d2] => { results := [.lit (.bool true)], args := [d1, d2] }
  | _ => none }
def namedAutoRow : OpenClaim := { program := "ytdeleamdjakooaa", sum := "ea69f82e2bc2bed69663cc6b84a93f86f51731e0fd98353c55ee5de5f0e2fa6b", func := "broadside/broadsidelaw13.NamedAuto", spec := "namedAuto", unfollowed := true, recurses := true, apart := false }
def NamedAutoSaid : Prop := namedAutoRow.holds Try.pinned (OpenSpec.ofChange namedAutoSpec)

/-- ITS FALSE NEIGHBOUR: 'it returns false'. Refute it at one input. -/
def namedAutoWrong : ChangeSpec := { name := "namedAuto", fn := fun _ => fun
  | [d1, d2] => { results := [.lit (.bool false)], args := [d1, d2] }
  | _ => none }
def NamedAutoWrongFalsely : Prop := namedAutoRow.holds Try.pinned (OpenSpec.ofChange namedAutoWrong)

/-- 'broadsidelaw13.NamedSame': WHATEVER THE INPUT: true; the input reads as it did. -/
def namedSameSpec : ChangeSpec := { name := "namedSame", fn := fun _ => fun
  | [d1, d2] => { results := [.lit (.bool true)], args := [d1, d2] }
  | _ => none }
def namedSameRow : OpenClaim := { program := "ytdeleamdjakooaa", sum := "ea69f82e2bc2bed69663cc6b84a93f86f51731e0fd98353c55ee5de5f0e2fa6b", func := "broadside/broadsidelaw13.NamedSame", spec := "namedSame", unfollowed := true, recurses := true, apart := false }
def NamedSameSaid : Prop := namedSameRow.holds Try.pinned (OpenSpec.ofChange namedSameSpec)

/-- ITS FALSE NEIGHBOUR: 'it returns false'. Refute it at one input. -/
def namedSameWrong : ChangeSpec := { name := "namedSame", fn := fun _ => fun
  | [d1, d2] => { results := [.lit (.bool false)], args := [d1, d2] }
  | _ => none }
def NamedSameWrongFalsely : Prop := namedSameRow.holds Try.pinned (OpenSpec.ofChange namedSameWrong)

/-- 'broadsidelaw13.NamedBelow': WHATEVER THE INPUT: true; the input reads as it did. -/
def namedBelowSpec : ChangeSpec := { name := "namedBelow", fn := fun _ => fun
  | [d] => { results := [.lit (.bool true)], args := [d] }
  | _ => none }
def namedBelowRow : OpenClaim := { program := "ytdeleamdjakooaa", sum := "ea69f82e2bc2bed69663cc6b84a93f86f51731e0fd98353c55ee5de5f0e2fa6b", func := "broadside/broadsidelaw13.NamedBelow", spec := "namedBelow", unfollowed := true, recurses := true, apart := false }
def NamedBelowSaid : Prop := namedBelowRow.holds Try.pinned (OpenSpec.ofChange namedBelowSpec)

/-- ITS FALSE NEIGHBOUR: 'it returns false'. Refute it at one input. -/
def namedBelowWrong : ChangeSpec := { name := "namedBelow", fn := fun _ => fun
  | [d] => { results := [.lit (.bool false)], args := [d] }
  | _ => none }
def NamedBelowWrongFalsely : Prop := namedBelowRow.holds Try.pinned (OpenSpec.ofChange namedBelowWrong)

/- THE SECOND FORM. 'bulk': how many values and letters a reading holds, each counted each time it is reached (what is shared counts as often as it is met; a slice's spare places count too). A statement '..UptoSaid' is the law's where the arguments, and the package variables that the reading takes, are together of bulk at most 1048576: NARROWER than '..Said'. Prove '..Said' where nothing that the law and all that it calls make is longer than what came in: it says more and counts as full. Else prove '..UptoSaid'. A law counts once. -/
mutual
def uptoBulk {H : Type} : DataW H → Nat
  | .lit (.string bytes) => bytes.length + 1
  | .lit _ => 1
  | .nil => 1
  | .ptr d => uptoBulk d + 1
  | .slice elems spare => uptoBulkAll elems + uptoBulkAll spare + 1
  | .agg parts => uptoBulkAll parts + 1
  | .iface _ d => uptoBulk d + 1
  | .map entries => uptoBulkEntries entries + 1
  | .held _ => 1
def uptoBulkAll {H : Type} : List (DataW H) → Nat
  | [] => 0
  | d :: r => uptoBulk d + uptoBulkAll r
def uptoBulkEntries {H : Type} : List (Lit × DataW H) → Nat
  | [] => 0
  | x :: r => uptoBulkEntry x + uptoBulkEntries r
def uptoBulkEntry {H : Type} : Lit × DataW H → Nat
  | (.string bytes, d) => bytes.length + uptoBulk d + 1
  | (_, d) => uptoBulk d + 1
 end
def uptoSmall : (H : Type) → List (DataW H) → Bool := fun _ ds => decide (uptoBulkAll ds ≤ 1048576)
def OpenSpec.upto (s : _root_.Go.ChangeSpec) : _root_.Go.OpenSpec := { _root_.Go.OpenSpec.ofChange s with cond := some uptoSmall }

/-- 'broadsidelaw13.NamedTells', WHERE WHAT IT READS IS OF BULK AT MOST 1048576: true; the input reads as it did. -/
def namedTellsUptoRow : OpenClaim := { program := "ytdeleamdjakooaa", sum := "ea69f82e2bc2bed69663cc6b84a93f86f51731e0fd98353c55ee5de5f0e2fa6b", func := "broadside/broadsidelaw13.NamedTells", spec := "namedTells", unfollowed := true, recurses := true, apart := false, narrowed := true }
def NamedTellsUptoSaid : Prop := namedTellsUptoRow.holds Try.pinned (OpenSpec.upto namedTellsSpec)

/-- 'broadsidelaw13.NamedFirst', WHERE WHAT IT READS IS OF BULK AT MOST 1048576: true; the input reads as it did. -/
def namedFirstUptoRow : OpenClaim := { program := "ytdeleamdjakooaa", sum := "ea69f82e2bc2bed69663cc6b84a93f86f51731e0fd98353c55ee5de5f0e2fa6b", func := "broadside/broadsidelaw13.NamedFirst", spec := "namedFirst", unfollowed := true, recurses := true, apart := false, narrowed := true }
def NamedFirstUptoSaid : Prop := namedFirstUptoRow.holds Try.pinned (OpenSpec.upto namedFirstSpec)

/-- 'broadsidelaw13.NamedRows', WHERE WHAT IT READS IS OF BULK AT MOST 1048576: true; the input reads as it did. -/
def namedRowsUptoRow : OpenClaim := { program := "ytdeleamdjakooaa", sum := "ea69f82e2bc2bed69663cc6b84a93f86f51731e0fd98353c55ee5de5f0e2fa6b", func := "broadside/broadsidelaw13.NamedRows", spec := "namedRows", unfollowed := true, recurses := true, apart := false, narrowed := true }
def NamedRowsUptoSaid : Prop := namedRowsUptoRow.holds Try.pinned (OpenSpec.upto namedRowsSpec)

/-- 'broadsidelaw13.NamedAuto', WHERE WHAT IT READS IS OF BULK AT MOST 1048576: true; the input reads as it did. -/
def namedAutoUptoRow : OpenClaim := { program := "ytdeleamdjakooaa", sum := "ea69f82e2bc2bed69663cc6b84a93f86f51731e0fd98353c55ee5de5f0e2fa6b", func := "broadside/broadsidelaw13.NamedAuto", spec := "namedAuto", unfollowed := true, recurses := true, apart := false, narrowed := true }
def NamedAutoUptoSaid : Prop := namedAutoUptoRow.holds Try.pinned (OpenSpec.upto namedAutoSpec)

/-- 'broadsidelaw13.NamedSame', WHERE WHAT IT READS IS OF BULK AT MOST 1048576: true; the input reads as it did. -/
def namedSameUptoRow : OpenClaim := { program := "ytdeleamdjakooaa", sum := "ea69f82e2bc2bed69663cc6b84a93f86f51731e0fd98353c55ee5de5f0e2fa6b", func := "broadside/broadsidelaw13.NamedSame", spec := "namedSame", unfollowed := true, recurses := true, apart := false, narrowed := true }
def NamedSameUptoSaid : Prop := namedSameUptoRow.holds Try.pinned (OpenSpec.upto namedSameSpec)

/-- 'broadsidelaw13.NamedBelow', WHERE WHAT IT READS IS OF BULK AT MOST 1048576: true; the input reads as it did. -/
def namedBelowUptoRow : OpenClaim := { program := "ytdeleamdjakooaa", sum := "ea69f82e2bc2bed69663cc6b84a93f86f51731e0fd98353c55ee5de5f0e2fa6b", func := "broadside/broadsidelaw13.NamedBelow", spec := "namedBelow", unfollowed := true, recurses := true, apart := false, narrowed := true }
def NamedBelowUptoSaid : Prop := namedBelowUptoRow.holds Try.pinned (OpenSpec.upto namedBelowSpec)

end Rows
end Go.Proofs.Ytdeleamdjakooaa
