/-
  DERIVED. GIVEN WITH THE SEED: THE CARDS: each row of YtfjopfinkdhmaaaGreatDoorRows.lean that lists a variable, with what it lists TIED to the program's text (the seventh form; the later family's looks); each row that meets fmt, with fmt's text TOLD by the authors' own Lean function (tested against real Go, not proved from fmt's source: count such statements apart). THE CARD IS WHAT COUNTS. Prove the row's statement (the work); the ties are given (YtfjopfinkdhmaaaGreatDoorTie.lean); close each card by the builder's one call (the guide's Derived/Test/ToyasCard.lean, 'card_holds'). Laid BY PROGRAM, IN A SANDBOX (cutbox-door.mjs). By AI agents, Wed Nov 11 2026. No macro, syntax, notation, axiom, sorry.
-/
import Derived.Test.YtfjopfinkdhmaaaGreatDoorRows
import GoSem.ClaimSeven
namespace Go.Proofs.YtfjopfinkdhmaaaGreatDoor
namespace Rows

/-- THE TIED CARD OF 'stratagemlaw12.PrinterCases'. -/
def printerCasesCard : Claim7 := { stood := { row := printerCasesRow, standIns := [], harness := (true, "440d1a796c1f4ae87cd287ee67045e831e4cedad50f744aac0e08dabd1641c60"), looks := true }, kinds := [], alts := [], laidByText := true, laidKinds := [.data, .data, .data], laidTests := true, laidLooks := .later }
def PrinterCasesCardSaid : Prop := Claim7.holds Tryz.pinned (.plain (OpenSpec.ofChange printerCasesSpec)) printerCasesCard

/-- THE TIED CARD OF 'stratagemlaw12.PrinterReturns'. -/
def printerReturnsCard : Claim7 := { stood := { row := printerReturnsRow, standIns := [], harness := (true, "440d1a796c1f4ae87cd287ee67045e831e4cedad50f744aac0e08dabd1641c60"), looks := true }, kinds := [], alts := [], laidByText := true, laidKinds := [.data, .data, .data], laidTests := true, laidLooks := .later }
def PrinterReturnsCardSaid : Prop := Claim7.holds Tryz.pinned (.plain (OpenSpec.ofChange printerReturnsSpec)) printerReturnsCard

/-- THE SECOND FORM's CARD OF 'stratagemlaw12.PrinterCases'. -/
def printerCasesUptoCard : Claim7 := { stood := { row := printerCasesUptoRow, standIns := [], harness := (true, "440d1a796c1f4ae87cd287ee67045e831e4cedad50f744aac0e08dabd1641c60"), looks := true }, kinds := [], alts := [], laidByText := true, laidKinds := [.data, .data, .data], laidTests := true, laidLooks := .later }
def PrinterCasesUptoCardSaid : Prop := Claim7.holds Tryz.pinned (.plain (OpenSpec.upto printerCasesSpec)) printerCasesUptoCard

/-- THE SECOND FORM's CARD OF 'stratagemlaw12.PrinterReturns'. -/
def printerReturnsUptoCard : Claim7 := { stood := { row := printerReturnsUptoRow, standIns := [], harness := (true, "440d1a796c1f4ae87cd287ee67045e831e4cedad50f744aac0e08dabd1641c60"), looks := true }, kinds := [], alts := [], laidByText := true, laidKinds := [.data, .data, .data], laidTests := true, laidLooks := .later }
def PrinterReturnsUptoCardSaid : Prop := Claim7.holds Tryz.pinned (.plain (OpenSpec.upto printerReturnsSpec)) printerReturnsUptoCard
end Rows
end Go.Proofs.YtfjopfinkdhmaaaGreatDoor
