/-
  No cell of these rows narrows 'for every input' (looked for: loops, veiled, ifaces, maps, wideKeys, modest, calm, conditions, laid).
  DERIVED. THE GIVEN ROWS OF THIS SEAT. 4 by the template 'for every input the law returns true; each argument reads behind the call as it read before'; 0 by the template 'total and deterministic' (their statements: YtlagfeppihkamaaTotals.lean).
  GIVEN WITH THE SEED: the statements are not yours to turn. If you find one false, say at which input.
  Laid BY PROGRAM, IN A SANDBOX (cutbox-rows.mjs): the forced cells as the released guide's own fill.sh prints them over the translation 4264cffb2f1c89cb… (all of the seat's roots in one cut). By AI agents, Wed Nov 11 2026. No macro, syntax, notation, axiom, sorry.
-/
import Derived.Test.YtlagfeppihkamaaChecked
import GoSem.Claim
import GoSem.ClaimJoined
import GoSem.ClaimMapViews
import Derived.JoinedTies
import Derived.KernelRfl
namespace Go.Proofs.Ytlagfeppihkamaa
/- THE CELL 'sum', in the pinned program and in every row, IS THE sha256 OF THE DUMP (.gsa) THAT YtlagfeppihkamaaProg.lean LOADS. Nothing in Lean hashes anything: it is a label: what it is worth is what the hold of that sum in a sandbox is worth. -/
noncomputable def Try.pinned : Pinned := { name := "ytlagfeppihkamaa", sum := "4264cffb2f1c89cbf674c715a5d629608c2bc3b12377feb50d342a76c0d85e78", checked := Try.checked }
namespace Rows
def none {H : Type} : Left H := { results := [], args := [] }

/-- 'broadsidelaw16.PagesParse': WHATEVER THE INPUT: true; the input reads as it did. -/
def pagesParseSpec : ChangeSpec := { name := "pagesParse", fn := fun _ => fun
  | [d] => { results := [.lit (.bool true)], args := [d] }
  | _ => none }
def pagesParseRow : OpenClaim := { program := "ytlagfeppihkamaa", sum := "4264cffb2f1c89cbf674c715a5d629608c2bc3b12377feb50d342a76c0d85e78", func := "broadside/broadsidelaw16.PagesParse", spec := "pagesParse", unfollowed := true, recurses := true, apart := false }
def PagesParseSaid : Prop := pagesParseRow.holds Try.pinned (OpenSpec.ofChange pagesParseSpec)

/-- ITS FALSE NEIGHBOUR: 'it returns false'. Refute it at one input. -/
def pagesParseWrong : ChangeSpec := { name := "pagesParse", fn := fun _ => fun
  | [d] => { results := [.lit (.bool false)], args := [d] }
  | _ => none }
def PagesParseWrongFalsely : Prop := pagesParseRow.holds Try.pinned (OpenSpec.ofChange pagesParseWrong)

/-- 'broadsidelaw16.PagesMore': WHATEVER THE INPUT: true; the input reads as it did. -/
def pagesMoreSpec : ChangeSpec := { name := "pagesMore", fn := fun _ => fun
  | [d1, d2, d3, d4] => { results := [.lit (.bool true)], args := [d1, d2, d3, d4] }
  | _ => none }
def pagesMoreRow : OpenClaim := { program := "ytlagfeppihkamaa", sum := "4264cffb2f1c89cbf674c715a5d629608c2bc3b12377feb50d342a76c0d85e78", func := "broadside/broadsidelaw16.PagesMore", spec := "pagesMore", unfollowed := true, recurses := true, apart := false }
def PagesMoreSaid : Prop := pagesMoreRow.holds Try.pinned (OpenSpec.ofChange pagesMoreSpec)

/-- ITS FALSE NEIGHBOUR: 'it returns false'. Refute it at one input. -/
def pagesMoreWrong : ChangeSpec := { name := "pagesMore", fn := fun _ => fun
  | [d1, d2, d3, d4] => { results := [.lit (.bool false)], args := [d1, d2, d3, d4] }
  | _ => none }
def PagesMoreWrongFalsely : Prop := pagesMoreRow.holds Try.pinned (OpenSpec.ofChange pagesMoreWrong)

/-- 'broadsidelaw16.PagesBest': WHATEVER THE INPUT: true; the input reads as it did. -/
def pagesBestSpec : ChangeSpec := { name := "pagesBest", fn := fun _ => fun
  | [d1, d2] => { results := [.lit (.bool true)], args := [d1, d2] }
  | _ => none }
def pagesBestRow : OpenClaim := { program := "ytlagfeppihkamaa", sum := "4264cffb2f1c89cbf674c715a5d629608c2bc3b12377feb50d342a76c0d85e78", func := "broadside/broadsidelaw16.PagesBest", spec := "pagesBest", unfollowed := true, recurses := true, apart := false }
def PagesBestSaid : Prop := pagesBestRow.holds Try.pinned (OpenSpec.ofChange pagesBestSpec)

/-- ITS FALSE NEIGHBOUR: 'it returns false'. Refute it at one input. -/
def pagesBestWrong : ChangeSpec := { name := "pagesBest", fn := fun _ => fun
  | [d1, d2] => { results := [.lit (.bool false)], args := [d1, d2] }
  | _ => none }
def PagesBestWrongFalsely : Prop := pagesBestRow.holds Try.pinned (OpenSpec.ofChange pagesBestWrong)

/-- 'broadsidelaw16.PagesLists': WHATEVER THE INPUT: true; the input reads as it did. -/
def pagesListsSpec : ChangeSpec := { name := "pagesLists", fn := fun _ => fun
  | [d1, d2, d3] => { results := [.lit (.bool true)], args := [d1, d2, d3] }
  | _ => none }
def pagesListsRow : OpenClaim := { program := "ytlagfeppihkamaa", sum := "4264cffb2f1c89cbf674c715a5d629608c2bc3b12377feb50d342a76c0d85e78", func := "broadside/broadsidelaw16.PagesLists", spec := "pagesLists", unfollowed := true, recurses := true, apart := false }
def PagesListsSaid : Prop := pagesListsRow.holds Try.pinned (OpenSpec.ofChange pagesListsSpec)

/-- ITS FALSE NEIGHBOUR: 'it returns false'. Refute it at one input. -/
def pagesListsWrong : ChangeSpec := { name := "pagesLists", fn := fun _ => fun
  | [d1, d2, d3] => { results := [.lit (.bool false)], args := [d1, d2, d3] }
  | _ => none }
def PagesListsWrongFalsely : Prop := pagesListsRow.holds Try.pinned (OpenSpec.ofChange pagesListsWrong)

/- THE SECOND FORM. 'bulk': how many values and letters a reading holds, each counted each time it is reached (what is shared counts as often as it is met; a slice's spare places count too). A statement '..UptoSaid' is the law's where the arguments, and the package variables that the reading takes, are together of bulk at most 1048576: NARROWER than '..Said'. Prove '..Said' where nothing that the law and all that it calls make is longer than what came in: it says more and counts as full. Else prove '..UptoSaid'. A law counts once. -/
mutual
def uptoBulk {H : Type} : DataW H → Nat
  | .lit (.string bytes) => bytes.length + 1
  | .lit _ => 1
  | .nil => 1
  | .ptr d => uptoBulk d + 1
  | .slice elems spare => uptoBulkAll elems + uptoBulkAll spare + 1
  | .agg parts => uptoBulkAll parts + 1
  | .iface _ d => uptoBulk d + 1
  | .map entries => uptoBulkEntries entries + 1
  | .held _ => 1
def uptoBulkAll {H : Type} : List (DataW H) → Nat
  | [] => 0
  | d :: r => uptoBulk d + uptoBulkAll r
def uptoBulkEntries {H : Type} : List (Lit × DataW H) → Nat
  | [] => 0
  | x :: r => uptoBulkEntry x + uptoBulkEntries r
def uptoBulkEntry {H : Type} : Lit × DataW H → Nat
  | (.string bytes, d) => bytes.length + uptoBulk d + 1
  | (_, d) => uptoBulk d + 1
 end
def uptoSmall : (H : Type) → List (DataW H) → Bool := fun _ ds => decide (uptoBulkAll ds ≤ 1048576)
def OpenSpec.upto (s : _root_.Go.ChangeSpec) : _root_.Go.OpenSpec := { _root_.Go.OpenSpec.ofChange s with cond := some uptoSmall }

/-- 'broadsidelaw16.PagesParse', WHERE WHAT IT READS IS OF BULK AT MOST 1048576: true; the input reads as it did. -/
def pagesParseUptoRow : OpenClaim := { program := "ytlagfeppihkamaa", sum := "4264cffb2f1c89cbf674c715a5d629608c2bc3b12377feb50d342a76c0d85e78", func := "broadside/broadsidelaw16.PagesParse", spec := "pagesParse", unfollowed := true, recurses := true, apart := false, narrowed := true }
def PagesParseUptoSaid : Prop := pagesParseUptoRow.holds Try.pinned (OpenSpec.upto pagesParseSpec)

/-- 'broadsidelaw16.PagesMore', WHERE WHAT IT READS IS OF BULK AT MOST 1048576: true; the input reads as it did. -/
def pagesMoreUptoRow : OpenClaim := { program := "ytlagfeppihkamaa", sum := "4264cffb2f1c89cbf674c715a5d629608c2bc3b12377feb50d342a76c0d85e78", func := "broadside/broadsidelaw16.PagesMore", spec := "pagesMore", unfollowed := true, recurses := true, apart := false, narrowed := true }
def PagesMoreUptoSaid : Prop := pagesMoreUptoRow.holds Try.pinned (OpenSpec.upto pagesMoreSpec)

/-- 'broadsidelaw16.PagesBest', WHERE WHAT IT READS IS OF BULK AT MOST 1048576: true; the input reads as it did. -/
def pagesBestUptoRow : OpenClaim := { program := "ytlagfeppihkamaa", sum := "4264cffb2f1c89cbf674c715a5d629608c2bc3b12377feb50d342a76c0d85e78", func := "broadside/broadsidelaw16.PagesBest", spec := "pagesBest", unfollowed := true, recurses := true, apart := false, narrowed := true }
def PagesBestUptoSaid : Prop := pagesBestUptoRow.holds Try.pinned (OpenSpec.upto pagesBestSpec)

/-- 'broadsidelaw16.PagesLists', WHERE WHAT IT READS IS OF BULK AT MOST 1048576: true; the input reads as it did. -/
def pagesListsUptoRow : OpenClaim := { program := "ytlagfeppihkamaa", sum := "4264cffb2f1c89cbf674c715a5d629608c2bc3b12377feb50d342a76c0d85e78", func := "broadside/broadsidelaw16.PagesLists", spec := "pagesLists", unfollowed := true, recurses := true, apart := false, narrowed := true }
def PagesListsUptoSaid : Prop := pagesListsUptoRow.holds Try.pinned (OpenSpec.upto pagesListsSpec)

end Rows
end Go.Proofs.Ytlagfeppihkamaa
