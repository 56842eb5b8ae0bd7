/-
  No cell of these rows narrows 'for every input' (looked for: loops, veiled, ifaces, maps, wideKeys, modest, calm, conditions, laid).
  DERIVED. THE GIVEN ROWS OF THIS SEAT. 6 by the template 'for every input the law returns true; each argument reads behind the call as it read before'; 0 by the template 'total and deterministic' (their statements: YtihkcnibffddgaaTotals.lean).
  GIVEN WITH THE SEED: the statements are not yours to turn. If you find one false, say at which input.
  Laid BY PROGRAM, IN A SANDBOX (cutbox-rows.mjs): the forced cells as the released guide's own fill.sh prints them over the translation 759932a456383511… (all of the seat's roots in one cut). By AI agents, Wed Nov 11 2026. No macro, syntax, notation, axiom, sorry.
-/
import Derived.Test.YtihkcnibffddgaaChecked
import GoSem.Claim
import GoSem.ClaimJoined
import GoSem.ClaimMapViews
import Derived.JoinedTies
import Derived.KernelRfl
namespace Go.Proofs.Ytihkcnibffddgaa
/- THE CELL 'sum', in the pinned program and in every row, IS THE sha256 OF THE DUMP (.gsa) THAT YtihkcnibffddgaaProg.lean LOADS. Nothing in Lean hashes anything: it is a label: what it is worth is what the hold of that sum in a sandbox is worth. -/
noncomputable def Try.pinned : Pinned := { name := "ytihkcnibffddgaa", sum := "759932a4563835110bbfe7075f0118c68778b199541c267b97f8c1078ab1e49d", checked := Try.checked }
namespace Rows
def none {H : Type} : Left H := { results := [], args := [] }

/-- 'broadsidelaw12.FlowAhead': WHATEVER THE INPUT: true; the input reads as it did. -/
def flowAheadSpec : ChangeSpec := { name := "flowAhead", fn := fun _ => fun
  | [d] => { results := [.lit (.bool true)], args := [d] }
  | _ => none }
def flowAheadRow : OpenClaim := { program := "ytihkcnibffddgaa", sum := "759932a4563835110bbfe7075f0118c68778b199541c267b97f8c1078ab1e49d", func := "broadside/broadsidelaw12.FlowAhead", spec := "flowAhead", unfollowed := true, recurses := true, apart := false }
def FlowAheadSaid : Prop := flowAheadRow.holds Try.pinned (OpenSpec.ofChange flowAheadSpec)

/-- ITS FALSE NEIGHBOUR: 'it returns false'. Refute it at one input. -/
def flowAheadWrong : ChangeSpec := { name := "flowAhead", fn := fun _ => fun
  | [d] => { results := [.lit (.bool false)], args := [d] }
  | _ => none }
def FlowAheadWrongFalsely : Prop := flowAheadRow.holds Try.pinned (OpenSpec.ofChange flowAheadWrong)

/-- 'broadsidelaw12.FlowJoins': WHATEVER THE INPUT: true; the input reads as it did. -/
def flowJoinsSpec : ChangeSpec := { name := "flowJoins", fn := fun _ => fun
  | [d1, d2] => { results := [.lit (.bool true)], args := [d1, d2] }
  | _ => none }
def flowJoinsRow : OpenClaim := { program := "ytihkcnibffddgaa", sum := "759932a4563835110bbfe7075f0118c68778b199541c267b97f8c1078ab1e49d", func := "broadside/broadsidelaw12.FlowJoins", spec := "flowJoins", unfollowed := true, recurses := true, apart := false }
def FlowJoinsSaid : Prop := flowJoinsRow.holds Try.pinned (OpenSpec.ofChange flowJoinsSpec)

/-- ITS FALSE NEIGHBOUR: 'it returns false'. Refute it at one input. -/
def flowJoinsWrong : ChangeSpec := { name := "flowJoins", fn := fun _ => fun
  | [d1, d2] => { results := [.lit (.bool false)], args := [d1, d2] }
  | _ => none }
def FlowJoinsWrongFalsely : Prop := flowJoinsRow.holds Try.pinned (OpenSpec.ofChange flowJoinsWrong)

/-- 'broadsidelaw12.FlowRunning': WHATEVER THE INPUT: true; the input reads as it did. -/
def flowRunningSpec : ChangeSpec := { name := "flowRunning", fn := fun _ => fun
  | [d] => { results := [.lit (.bool true)], args := [d] }
  | _ => none }
def flowRunningRow : OpenClaim := { program := "ytihkcnibffddgaa", sum := "759932a4563835110bbfe7075f0118c68778b199541c267b97f8c1078ab1e49d", func := "broadside/broadsidelaw12.FlowRunning", spec := "flowRunning", unfollowed := true, recurses := true, apart := false }
def FlowRunningSaid : Prop := flowRunningRow.holds Try.pinned (OpenSpec.ofChange flowRunningSpec)

/-- ITS FALSE NEIGHBOUR: 'it returns false'. Refute it at one input. -/
def flowRunningWrong : ChangeSpec := { name := "flowRunning", fn := fun _ => fun
  | [d] => { results := [.lit (.bool false)], args := [d] }
  | _ => none }
def FlowRunningWrongFalsely : Prop := flowRunningRow.holds Try.pinned (OpenSpec.ofChange flowRunningWrong)

/-- 'broadsidelaw12.FlowTells': WHATEVER THE INPUT: true; the input reads as it did. -/
def flowTellsSpec : ChangeSpec := { name := "flowTells", fn := fun _ => fun
  | [d1, d2] => { results := [.lit (.bool true)], args := [d1, d2] }
  | _ => none }
def flowTellsRow : OpenClaim := { program := "ytihkcnibffddgaa", sum := "759932a4563835110bbfe7075f0118c68778b199541c267b97f8c1078ab1e49d", func := "broadside/broadsidelaw12.FlowTells", spec := "flowTells", unfollowed := true, recurses := true, apart := false }
def FlowTellsSaid : Prop := flowTellsRow.holds Try.pinned (OpenSpec.ofChange flowTellsSpec)

/-- ITS FALSE NEIGHBOUR: 'it returns false'. Refute it at one input. -/
def flowTellsWrong : ChangeSpec := { name := "flowTells", fn := fun _ => fun
  | [d1, d2] => { results := [.lit (.bool false)], args := [d1, d2] }
  | _ => none }
def FlowTellsWrongFalsely : Prop := flowTellsRow.holds Try.pinned (OpenSpec.ofChange flowTellsWrong)

/-- 'broadsidelaw12.FlowPoints': WHATEVER THE INPUT: true; the input reads as it did. -/
def flowPointsSpec : ChangeSpec := { name := "flowPoints", fn := fun _ => fun
  | [d] => { results := [.lit (.bool true)], args := [d] }
  | _ => none }
def flowPointsRow : OpenClaim := { program := "ytihkcnibffddgaa", sum := "759932a4563835110bbfe7075f0118c68778b199541c267b97f8c1078ab1e49d", func := "broadside/broadsidelaw12.FlowPoints", spec := "flowPoints", unfollowed := true, recurses := true, apart := false }
def FlowPointsSaid : Prop := flowPointsRow.holds Try.pinned (OpenSpec.ofChange flowPointsSpec)

/-- ITS FALSE NEIGHBOUR: 'it returns false'. Refute it at one input. -/
def flowPointsWrong : ChangeSpec := { name := "flowPoints", fn := fun _ => fun
  | [d] => { results := [.lit (.bool false)], args := [d] }
  | _ => none }
def FlowPointsWrongFalsely : Prop := flowPointsRow.holds Try.pinned (OpenSpec.ofChange flowPointsWrong)

/-- 'broadsidelaw12.FlowAuto': WHATEVER THE INPUT: true; the input reads as it did. -/
def flowAutoSpec : ChangeSpec := { name := "flowAuto", fn := fun _ => fun
  | [d1, d2, d3] => { results := [.lit (.bool true)], args := [d1, d2, d3] }
  | _ => none }
def flowAutoRow : OpenClaim := { program := "ytihkcnibffddgaa", sum := "759932a4563835110bbfe7075f0118c68778b199541c267b97f8c1078ab1e49d", func := "broadside/broadsidelaw12.FlowAuto", spec := "flowAuto", unfollowed := true, recurses := true, apart := false }
def FlowAutoSaid : Prop := flowAutoRow.holds Try.pinned (OpenSpec.ofChange flowAutoSpec)

/-- ITS FALSE NEIGHBOUR: 'it returns false'. Refute it at one input. -/
def flowAutoWrong : ChangeSpec := { name := "flowAuto", fn := fun _ => fun
  | [d1, d2, d3] => { results := [.lit (.bool false)], args := [d1, d2, d3] }
  | _ => none }
def FlowAutoWrongFalsely : Prop := flowAutoRow.holds Try.pinned (OpenSpec.ofChange flowAutoWrong)

/- THE SECOND FORM. 'bulk': how many values and letters a reading holds, each counted each time it is reached (what is shared counts as often as it is met; a slice's spare places count too). A statement '..UptoSaid' is the law's where the arguments, and the package variables that the reading takes, are together of bulk at most 1048576: NARROWER than '..Said'. Prove '..Said' where nothing that the law and all that it calls make is longer than what came in: it says more and counts as full. Else prove '..UptoSaid'. A law counts once. -/
mutual
def uptoBulk {H : Type} : DataW H → Nat
  | .lit (.string bytes) => bytes.length + 1
  | .lit _ => 1
  | .nil => 1
  | .ptr d => uptoBulk d + 1
  | .slice elems spare => uptoBulkAll elems + uptoBulkAll spare + 1
  | .agg parts => uptoBulkAll parts + 1
  | .iface _ d => uptoBulk d + 1
  | .map entries => uptoBulkEntries entries + 1
  | .held _ => 1
def uptoBulkAll {H : Type} : List (DataW H) → Nat
  | [] => 0
  | d :: r => uptoBulk d + uptoBulkAll r
def uptoBulkEntries {H : Type} : List (Lit × DataW H) → Nat
  | [] => 0
  | x :: r => uptoBulkEntry x + uptoBulkEntries r
def uptoBulkEntry {H : Type} : Lit × DataW H → Nat
  | (.string bytes, d) => bytes.length + uptoBulk d + 1
  | (_, d) => uptoBulk d + 1
 end
def uptoSmall : (H : Type) → List (DataW H) → Bool := fun _ ds => decide (uptoBulkAll ds ≤ 1048576)
def OpenSpec.upto (s : _root_.Go.ChangeSpec) : _root_.Go.OpenSpec := { _root_.Go.OpenSpec.ofChange s with cond := some uptoSmall }

/-- 'broadsidelaw12.FlowAhead', WHERE WHAT IT READS IS OF BULK AT MOST 1048576: true; the input reads as it did. -/
def flowAheadUptoRow : OpenClaim := { program := "ytihkcnibffddgaa", sum := "759932a4563835110bbfe7075f0118c68778b199541c267b97f8c1078ab1e49d", func := "broadside/broadsidelaw12.FlowAhead", spec := "flowAhead", unfollowed := true, recurses := true, apart := false, narrowed := true }
def FlowAheadUptoSaid : Prop := flowAheadUptoRow.holds Try.pinned (OpenSpec.upto flowAheadSpec)

/-- 'broadsidelaw12.FlowJoins', WHERE WHAT IT READS IS OF BULK AT MOST 1048576: true; the input reads as it did. -/
def flowJoinsUptoRow : OpenClaim := { program := "ytihkcnibffddgaa", sum := "759932a4563835110bbfe7075f0118c68778b199541c267b97f8c1078ab1e49d", func := "broadside/broadsidelaw12.FlowJoins", spec := "flowJoins", unfollowed := true, recurses := true, apart := false, narrowed := true }
def FlowJoinsUptoSaid : Prop := flowJoinsUptoRow.holds Try.pinned (OpenSpec.upto flowJoinsSpec)

/-- 'broadsidelaw12.FlowRunning', WHERE WHAT IT READS IS OF BULK AT MOST 1048576: true; the input reads as it did. -/
def flowRunningUptoRow : OpenClaim := { program := "ytihkcnibffddgaa", sum := "759932a4563835110bbfe7075f0118c68778b199541c267b97f8c1078ab1e49d", func := "broadside/broadsidelaw12.FlowRunning", spec := "flowRunning", unfollowed := true, recurses := true, apart := false, narrowed := true }
def FlowRunningUptoSaid : Prop := flowRunningUptoRow.holds Try.pinned (OpenSpec.upto flowRunningSpec)

/-- 'broadsidelaw12.FlowTells', WHERE WHAT IT READS IS OF BULK AT MOST 1048576: true; the input reads as it did. -/
def flowTellsUptoRow : OpenClaim := { program := "ytihkcnibffddgaa", sum := "759932a4563835110bbfe7075f0118c68778b199541c267b97f8c1078ab1e49d", func := "broadside/broadsidelaw12.FlowTells", spec := "flowTells", unfollowed := true, recurses := true, apart := false, narrowed := true }
def FlowTellsUptoSaid : Prop := flowTellsUptoRow.holds Try.pinned (OpenSpec.upto flowTellsSpec)

/-- 'broadsidelaw12.FlowPoints', WHERE WHAT IT READS IS OF BULK AT MOST 1048576: true; the input reads as it did. -/
def flowPointsUptoRow : OpenClaim := { program := "ytihkcnibffddgaa", sum := "759932a4563835110bbfe7075f0118c68778b199541c267b97f8c1078ab1e49d", func := "broadside/broadsidelaw12.FlowPoints", spec := "flowPoints", unfollowed := true, recurses := true, apart := false, narrowed := true }
def FlowPointsUptoSaid : Prop := flowPointsUptoRow.holds Try.pinned (OpenSpec.upto flowPointsSpec)

/-- 'broadsidelaw12.FlowAuto', WHERE WHAT IT READS IS OF BULK AT MOST 1048576: true; the input reads as it did. -/
def flowAutoUptoRow : OpenClaim := { program := "ytihkcnibffddgaa", sum := "759932a4563835110bbfe7075f0118c68778b199541c267b97f8c1078ab1e49d", func := "broadside/broadsidelaw12.FlowAuto", spec := "flowAuto", unfollowed := true, recurses := true, apart := false, narrowed := true }
def FlowAutoUptoSaid : Prop := flowAutoUptoRow.holds Try.pinned (OpenSpec.upto flowAutoSpec)

end Rows
end Go.Proofs.Ytihkcnibffddgaa
