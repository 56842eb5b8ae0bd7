/-
  No cell of these rows narrows 'for every input' (looked for: loops, veiled, ifaces, maps, wideKeys, modest, calm, conditions, laid).
  DERIVED. THE GIVEN ROWS OF THIS SEAT. 5 by the template 'for every input the law returns true; each argument reads behind the call as it read before'; 0 by the template 'total and deterministic' (their statements: YtjcmoedalneldaaGreatTotals.lean).
  GIVEN WITH THE SEED: the statements are not yours to turn. If you find one false, say at which input.
  Laid BY PROGRAM, IN A SANDBOX (cutbox-rows.mjs): the forced cells as the released guide's own fill.sh prints them over the translation ca0ef8c28637af53… (all of the seat's roots in one cut). By AI agents, Wed Nov 11 2026. No macro, syntax, notation, axiom, sorry.
-/
import Derived.Test.YtjcmoedalneldaaGreatChecked
import GoSem.Claim
import GoSem.ClaimJoined
import GoSem.ClaimMapViews
import Derived.JoinedTies
import Derived.KernelRfl
namespace Go.Proofs.YtjcmoedalneldaaGreat
/- THE CELL 'sum', in the pinned program and in every row, IS THE sha256 OF THE DUMP (.gsa) THAT YtjcmoedalneldaaGreatProg.lean LOADS. Nothing in Lean hashes anything: it is a label: what it is worth is what the hold of that sum in a sandbox is worth. -/
noncomputable def Tryz.pinned : Pinned := { name := "ytjcmoedalneldaagreat", sum := "ca0ef8c28637af53d002fdd6b5f5170d71f348e94a11c3c768f2bf46a4b35bcd", checked := Tryz.checked }
namespace Rows
def none {H : Type} : Left H := { results := [], args := [] }

/-- 'broadsidelaw11.CascadeKeys': WHATEVER THE INPUT: true; the input reads as it did. -/
def cascadeKeysSpec : ChangeSpec := { name := "cascadeKeys", fn := fun _ => fun
  | [d1, d2, d3, d4] => { results := [.lit (.bool true)], args := [d1, d2, d3, d4] }
  | _ => none }
def cascadeKeysRow : OpenClaim := { program := "ytjcmoedalneldaagreat", sum := "ca0ef8c28637af53d002fdd6b5f5170d71f348e94a11c3c768f2bf46a4b35bcd", func := "broadside/broadsidelaw11.CascadeKeys", spec := "cascadeKeys", unfollowed := true, recurses := true, apart := false }
def CascadeKeysSaid : Prop := cascadeKeysRow.holds Tryz.pinned (OpenSpec.ofChange cascadeKeysSpec)

/-- ITS FALSE NEIGHBOUR: 'it returns false'. Refute it at one input. -/
def cascadeKeysWrong : ChangeSpec := { name := "cascadeKeys", fn := fun _ => fun
  | [d1, d2, d3, d4] => { results := [.lit (.bool false)], args := [d1, d2, d3, d4] }
  | _ => none }
def CascadeKeysWrongFalsely : Prop := cascadeKeysRow.holds Tryz.pinned (OpenSpec.ofChange cascadeKeysWrong)

/-- 'broadsidelaw11.CascadeWins': WHATEVER THE INPUT: true; the input reads as it did. -/
def cascadeWinsSpec : ChangeSpec := { name := "cascadeWins", fn := fun _ => fun
  | [d1, d2, d3, d4] => { results := [.lit (.bool true)], args := [d1, d2, d3, d4] }
  | _ => none }
def cascadeWinsRow : OpenClaim := { program := "ytjcmoedalneldaagreat", sum := "ca0ef8c28637af53d002fdd6b5f5170d71f348e94a11c3c768f2bf46a4b35bcd", func := "broadside/broadsidelaw11.CascadeWins", spec := "cascadeWins", unfollowed := true, recurses := true, apart := false }
def CascadeWinsSaid : Prop := cascadeWinsRow.holds Tryz.pinned (OpenSpec.ofChange cascadeWinsSpec)

/-- ITS FALSE NEIGHBOUR: 'it returns false'. Refute it at one input. -/
def cascadeWinsWrong : ChangeSpec := { name := "cascadeWins", fn := fun _ => fun
  | [d1, d2, d3, d4] => { results := [.lit (.bool false)], args := [d1, d2, d3, d4] }
  | _ => none }
def CascadeWinsWrongFalsely : Prop := cascadeWinsRow.holds Tryz.pinned (OpenSpec.ofChange cascadeWinsWrong)

/-- 'broadsidelaw11.CascadeElement': WHATEVER THE INPUT: true; the input reads as it did. -/
def cascadeElementSpec : ChangeSpec := { name := "cascadeElement", fn := fun _ => fun
  | [d1, d2, d3] => { results := [.lit (.bool true)], args := [d1, d2, d3] }
  | _ => none }
def cascadeElementRow : OpenClaim := { program := "ytjcmoedalneldaagreat", sum := "ca0ef8c28637af53d002fdd6b5f5170d71f348e94a11c3c768f2bf46a4b35bcd", func := "broadside/broadsidelaw11.CascadeElement", spec := "cascadeElement", unfollowed := true, recurses := true, apart := false }
def CascadeElementSaid : Prop := cascadeElementRow.holds Tryz.pinned (OpenSpec.ofChange cascadeElementSpec)

/-- ITS FALSE NEIGHBOUR: 'it returns false'. Refute it at one input. -/
def cascadeElementWrong : ChangeSpec := { name := "cascadeElement", fn := fun _ => fun
  | [d1, d2, d3] => { results := [.lit (.bool false)], args := [d1, d2, d3] }
  | _ => none }
def CascadeElementWrongFalsely : Prop := cascadeElementRow.holds Tryz.pinned (OpenSpec.ofChange cascadeElementWrong)

/-- 'broadsidelaw11.CascadeBeaten': WHATEVER THE INPUT: true; the input reads as it did. -/
def cascadeBeatenSpec : ChangeSpec := { name := "cascadeBeaten", fn := fun _ => fun
  | [d1, d2, d3] => { results := [.lit (.bool true)], args := [d1, d2, d3] }
  | _ => none }
def cascadeBeatenRow : OpenClaim := { program := "ytjcmoedalneldaagreat", sum := "ca0ef8c28637af53d002fdd6b5f5170d71f348e94a11c3c768f2bf46a4b35bcd", func := "broadside/broadsidelaw11.CascadeBeaten", spec := "cascadeBeaten", unfollowed := true, recurses := true, apart := false }
def CascadeBeatenSaid : Prop := cascadeBeatenRow.holds Tryz.pinned (OpenSpec.ofChange cascadeBeatenSpec)

/-- ITS FALSE NEIGHBOUR: 'it returns false'. Refute it at one input. -/
def cascadeBeatenWrong : ChangeSpec := { name := "cascadeBeaten", fn := fun _ => fun
  | [d1, d2, d3] => { results := [.lit (.bool false)], args := [d1, d2, d3] }
  | _ => none }
def CascadeBeatenWrongFalsely : Prop := cascadeBeatenRow.holds Tryz.pinned (OpenSpec.ofChange cascadeBeatenWrong)

/-- 'broadsidelaw11.CascadeTwice': WHATEVER THE INPUT: true; the input reads as it did. -/
def cascadeTwiceSpec : ChangeSpec := { name := "cascadeTwice", fn := fun _ => fun
  | [d1, d2, d3] => { results := [.lit (.bool true)], args := [d1, d2, d3] }
  | _ => none }
def cascadeTwiceRow : OpenClaim := { program := "ytjcmoedalneldaagreat", sum := "ca0ef8c28637af53d002fdd6b5f5170d71f348e94a11c3c768f2bf46a4b35bcd", func := "broadside/broadsidelaw11.CascadeTwice", spec := "cascadeTwice", unfollowed := true, recurses := true, apart := false }
def CascadeTwiceSaid : Prop := cascadeTwiceRow.holds Tryz.pinned (OpenSpec.ofChange cascadeTwiceSpec)

/-- ITS FALSE NEIGHBOUR: 'it returns false'. Refute it at one input. -/
def cascadeTwiceWrong : ChangeSpec := { name := "cascadeTwice", fn := fun _ => fun
  | [d1, d2, d3] => { results := [.lit (.bool false)], args := [d1, d2, d3] }
  | _ => none }
def CascadeTwiceWrongFalsely : Prop := cascadeTwiceRow.holds Tryz.pinned (OpenSpec.ofChange cascadeTwiceWrong)

/- THE SECOND FORM. 'bulk': how many values and letters a reading holds, each counted each time it is reached (what is shared counts as often as it is met; a slice's spare places count too). A statement '..UptoSaid' is the law's where the arguments, and the package variables that the reading takes, are together of bulk at most 1048576: NARROWER than '..Said'. Prove '..Said' where nothing that the law and all that it calls make is longer than what came in: it says more and counts as full. Else prove '..UptoSaid'. A law counts once. -/
mutual
def uptoBulk {H : Type} : DataW H → Nat
  | .lit (.string bytes) => bytes.length + 1
  | .lit _ => 1
  | .nil => 1
  | .ptr d => uptoBulk d + 1
  | .slice elems spare => uptoBulkAll elems + uptoBulkAll spare + 1
  | .agg parts => uptoBulkAll parts + 1
  | .iface _ d => uptoBulk d + 1
  | .map entries => uptoBulkEntries entries + 1
  | .held _ => 1
def uptoBulkAll {H : Type} : List (DataW H) → Nat
  | [] => 0
  | d :: r => uptoBulk d + uptoBulkAll r
def uptoBulkEntries {H : Type} : List (Lit × DataW H) → Nat
  | [] => 0
  | x :: r => uptoBulkEntry x + uptoBulkEntries r
def uptoBulkEntry {H : Type} : Lit × DataW H → Nat
  | (.string bytes, d) => bytes.length + uptoBulk d + 1
  | (_, d) => uptoBulk d + 1
 end
def uptoSmall : (H : Type) → List (DataW H) → Bool := fun _ ds => decide (uptoBulkAll ds ≤ 1048576)
def OpenSpec.upto (s : _root_.Go.ChangeSpec) : _root_.Go.OpenSpec := { _root_.Go.OpenSpec.ofChange s with cond := some uptoSmall }

/-- 'broadsidelaw11.CascadeKeys', WHERE WHAT IT READS IS OF BULK AT MOST 1048576: true; the input reads as it did. -/
def cascadeKeysUptoRow : OpenClaim := { program := "ytjcmoedalneldaagreat", sum := "ca0ef8c28637af53d002fdd6b5f5170d71f348e94a11c3c768f2bf46a4b35bcd", func := "broadside/broadsidelaw11.CascadeKeys", spec := "cascadeKeys", unfollowed := true, recurses := true, apart := false, narrowed := true }
def CascadeKeysUptoSaid : Prop := cascadeKeysUptoRow.holds Tryz.pinned (OpenSpec.upto cascadeKeysSpec)

/-- 'broadsidelaw11.CascadeWins', WHERE WHAT IT READS IS OF BULK AT MOST 1048576: true; the input reads as it did. -/
def cascadeWinsUptoRow : OpenClaim := { program := "ytjcmoedalneldaagreat", sum := "ca0ef8c28637af53d002fdd6b5f5170d71f348e94a11c3c768f2bf46a4b35bcd", func := "broadside/broadsidelaw11.CascadeWins", spec := "cascadeWins", unfollowed := true, recurses := true, apart := false, narrowed := true }
def CascadeWinsUptoSaid : Prop := cascadeWinsUptoRow.holds Tryz.pinned (OpenSpec.upto cascadeWinsSpec)

/-- 'broadsidelaw11.CascadeElement', WHERE WHAT IT READS IS OF BULK AT MOST 1048576: true; the input reads as it did. -/
def cascadeElementUptoRow : OpenClaim := { program := "ytjcmoedalneldaagreat", sum := "ca0ef8c28637af53d002fdd6b5f5170d71f348e94a11c3c768f2bf46a4b35bcd", func := "broadside/broadsidelaw11.CascadeElement", spec := "cascadeElement", unfollowed := true, recurses := true, apart := false, narrowed := true }
def CascadeElementUptoSaid : Prop := cascadeElementUptoRow.holds Tryz.pinned (OpenSpec.upto cascadeElementSpec)

/-- 'broadsidelaw11.CascadeBeaten', WHERE WHAT IT READS IS OF BULK AT MOST 1048576: true; the input reads as it did. -/
def cascadeBeatenUptoRow : OpenClaim := { program := "ytjcmoedalneldaagreat", sum := "ca0ef8c28637af53d002fdd6b5f5170d71f348e94a11c3c768f2bf46a4b35bcd", func := "broadside/broadsidelaw11.CascadeBeaten", spec := "cascadeBeaten", unfollowed := true, recurses := true, apart := false, narrowed := true }
def CascadeBeatenUptoSaid : Prop := cascadeBeatenUptoRow.holds Tryz.pinned (OpenSpec.upto cascadeBeatenSpec)

/-- 'broadsidelaw11.CascadeTwice', WHERE WHAT IT READS IS OF BULK AT MOST 1048576: true; the input reads as it did. -/
def cascadeTwiceUptoRow : OpenClaim := { program := "ytjcmoedalneldaagreat", sum := "ca0ef8c28637af53d002fdd6b5f5170d71f348e94a11c3c768f2bf46a4b35bcd", func := "broadside/broadsidelaw11.CascadeTwice", spec := "cascadeTwice", unfollowed := true, recurses := true, apart := false, narrowed := true }
def CascadeTwiceUptoSaid : Prop := cascadeTwiceUptoRow.holds Tryz.pinned (OpenSpec.upto cascadeTwiceSpec)

end Rows
end Go.Proofs.YtjcmoedalneldaaGreat
