/-
  DERIVED. GIVEN WITH THE SEED: THE CARDS: each row of YtlaopdfpncckeaaGreatDoorRows.lean that lists a variable, with what it lists TIED to the program's text (the seventh form; the later family's looks); each row that meets fmt, with fmt's text TOLD by the authors' own Lean function (tested against real Go, not proved from fmt's source: count such statements apart). THE CARD IS WHAT COUNTS. Prove the row's statement (the work); the ties are given (YtlaopdfpncckeaaGreatDoorTie.lean); close each card by the builder's one call (the guide's Derived/Test/ToyasCard.lean, 'card_holds'). Laid BY PROGRAM, IN A SANDBOX (cutbox-door.mjs). By AI agents, Wed Nov 11 2026. No macro, syntax, notation, axiom, sorry.
-/
import Derived.Test.YtlaopdfpncckeaaGreatDoorRows
import GoSem.ClaimSeven
namespace Go.Proofs.YtlaopdfpncckeaaGreatDoor
namespace Rows

/-- THE TIED CARD OF 'broadsidelaw17.ContextSize'. -/
def contextSizeCard : Claim7 := { stood := { row := contextSizeRow, standIns := [], harness := (true, "cd6c6683ca6343c9c44d407a26be48f23d5d735325a57dd2e72eb07e4f599f54"), looks := false }, kinds := [], alts := [], laidByText := true, laidKinds := [.data], laidTests := true, laidLooks := .later }
def ContextSizeCardSaid : Prop := Claim7.holds Tryz.pinned (.plain (OpenSpec.ofChange contextSizeSpec)) contextSizeCard

/-- THE TIED CARD OF 'broadsidelaw17.ContextPage'. -/
def contextPageCard : Claim7 := { stood := { row := contextPageRow, standIns := [], harness := (true, "cd6c6683ca6343c9c44d407a26be48f23d5d735325a57dd2e72eb07e4f599f54"), looks := false }, kinds := [], alts := [], laidByText := true, laidKinds := [.data], laidTests := true, laidLooks := .later }
def ContextPageCardSaid : Prop := Claim7.holds Tryz.pinned (.plain (OpenSpec.ofChange contextPageSpec)) contextPageCard

/-- THE TIED CARD OF 'broadsidelaw17.ContextOthers'. -/
def contextOthersCard : Claim7 := { stood := { row := contextOthersRow, standIns := [], harness := (true, "cd6c6683ca6343c9c44d407a26be48f23d5d735325a57dd2e72eb07e4f599f54"), looks := false }, kinds := [], alts := [], laidByText := true, laidKinds := [.data], laidTests := true, laidLooks := .later }
def ContextOthersCardSaid : Prop := Claim7.holds Tryz.pinned (.plain (OpenSpec.ofChange contextOthersSpec)) contextOthersCard

/-- THE TIED CARD OF 'broadsidelaw17.ContextMargins'. -/
def contextMarginsCard : Claim7 := { stood := { row := contextMarginsRow, standIns := [], harness := (true, "cd6c6683ca6343c9c44d407a26be48f23d5d735325a57dd2e72eb07e4f599f54"), looks := false }, kinds := [], alts := [], laidByText := true, laidKinds := [.data], laidTests := true, laidLooks := .later }
def ContextMarginsCardSaid : Prop := Claim7.holds Tryz.pinned (.plain (OpenSpec.ofChange contextMarginsSpec)) contextMarginsCard

/-- THE SECOND FORM's CARD OF 'broadsidelaw17.ContextSize'. -/
def contextSizeUptoCard : Claim7 := { stood := { row := contextSizeUptoRow, standIns := [], harness := (true, "cd6c6683ca6343c9c44d407a26be48f23d5d735325a57dd2e72eb07e4f599f54"), looks := false }, kinds := [], alts := [], laidByText := true, laidKinds := [.data], laidTests := true, laidLooks := .later }
def ContextSizeUptoCardSaid : Prop := Claim7.holds Tryz.pinned (.plain (OpenSpec.upto contextSizeSpec)) contextSizeUptoCard

/-- THE SECOND FORM's CARD OF 'broadsidelaw17.ContextPage'. -/
def contextPageUptoCard : Claim7 := { stood := { row := contextPageUptoRow, standIns := [], harness := (true, "cd6c6683ca6343c9c44d407a26be48f23d5d735325a57dd2e72eb07e4f599f54"), looks := false }, kinds := [], alts := [], laidByText := true, laidKinds := [.data], laidTests := true, laidLooks := .later }
def ContextPageUptoCardSaid : Prop := Claim7.holds Tryz.pinned (.plain (OpenSpec.upto contextPageSpec)) contextPageUptoCard

/-- THE SECOND FORM's CARD OF 'broadsidelaw17.ContextOthers'. -/
def contextOthersUptoCard : Claim7 := { stood := { row := contextOthersUptoRow, standIns := [], harness := (true, "cd6c6683ca6343c9c44d407a26be48f23d5d735325a57dd2e72eb07e4f599f54"), looks := false }, kinds := [], alts := [], laidByText := true, laidKinds := [.data], laidTests := true, laidLooks := .later }
def ContextOthersUptoCardSaid : Prop := Claim7.holds Tryz.pinned (.plain (OpenSpec.upto contextOthersSpec)) contextOthersUptoCard

/-- THE SECOND FORM's CARD OF 'broadsidelaw17.ContextMargins'. -/
def contextMarginsUptoCard : Claim7 := { stood := { row := contextMarginsUptoRow, standIns := [], harness := (true, "cd6c6683ca6343c9c44d407a26be48f23d5d735325a57dd2e72eb07e4f599f54"), looks := false }, kinds := [], alts := [], laidByText := true, laidKinds := [.data], laidTests := true, laidLooks := .later }
def ContextMarginsUptoCardSaid : Prop := Claim7.holds Tryz.pinned (.plain (OpenSpec.upto contextMarginsSpec)) contextMarginsUptoCard
end Rows
end Go.Proofs.YtlaopdfpncckeaaGreatDoor
