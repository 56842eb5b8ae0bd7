/-
  DERIVED. GIVEN WITH THE SEED: THE CARDS: each row of YtilinnmancfjgaaGreatDoorRows.lean that lists a variable, with what it lists TIED to the program's text (the seventh form; the later family's looks); each row that meets fmt, with fmt's text TOLD by the authors' own Lean function (tested against real Go, not proved from fmt's source: count such statements apart). THE CARD IS WHAT COUNTS. Prove the row's statement (the work); the ties are given (YtilinnmancfjgaaGreatDoorTie.lean); close each card by the builder's one call (the guide's Derived/Test/ToyasCard.lean, 'card_holds'). Laid BY PROGRAM, IN A SANDBOX (cutbox-door.mjs). By AI agents, Wed Nov 11 2026. No macro, syntax, notation, axiom, sorry.
-/
import Derived.Test.YtilinnmancfjgaaGreatDoorRows
import GoSem.ClaimSeven
namespace Go.Proofs.YtilinnmancfjgaaGreatDoor
namespace Rows

/-- THE TIED CARD OF 'broadsidelaw17.ContextSize'. -/
def contextSizeCard : Claim7 := { stood := { row := contextSizeRow, standIns := [], harness := (true, "1a84c83a469703219b76262c8508460d4f9dd468a0cd433e7bde4859933a1f32"), looks := false }, kinds := [], alts := [], laidByText := true, laidKinds := [.data], laidTests := true, laidLooks := .later }
def ContextSizeCardSaid : Prop := Claim7.holds Tryz.pinned (.plain (OpenSpec.ofChange contextSizeSpec)) contextSizeCard

/-- THE SECOND FORM's CARD OF 'broadsidelaw17.ContextSize'. -/
def contextSizeUptoCard : Claim7 := { stood := { row := contextSizeUptoRow, standIns := [], harness := (true, "1a84c83a469703219b76262c8508460d4f9dd468a0cd433e7bde4859933a1f32"), looks := false }, kinds := [], alts := [], laidByText := true, laidKinds := [.data], laidTests := true, laidLooks := .later }
def ContextSizeUptoCardSaid : Prop := Claim7.holds Tryz.pinned (.plain (OpenSpec.upto contextSizeSpec)) contextSizeUptoCard
end Rows
end Go.Proofs.YtilinnmancfjgaaGreatDoor
