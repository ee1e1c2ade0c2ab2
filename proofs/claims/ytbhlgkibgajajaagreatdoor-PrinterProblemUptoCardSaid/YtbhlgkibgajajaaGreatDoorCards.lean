/-
  DERIVED. GIVEN WITH THE SEED: THE CARDS: each row of YtbhlgkibgajajaaGreatDoorRows.lean that lists a variable, with what it lists TIED to the program's text (the seventh form; the later family's looks); each row that meets fmt, with fmt's text TOLD by the authors' own Lean function (tested against real Go, not proved from fmt's source: count such statements apart). THE CARD IS WHAT COUNTS. Prove the row's statement (the work); the ties are given (YtbhlgkibgajajaaGreatDoorTie.lean); close each card by the builder's one call (the guide's Derived/Test/ToyasCard.lean, 'card_holds'). Laid BY PROGRAM, IN A SANDBOX (cutbox-door.mjs). By AI agents, Wed Nov 11 2026. No macro, syntax, notation, axiom, sorry.
-/
import Derived.Test.YtbhlgkibgajajaaGreatDoorRows
import GoSem.ClaimSeven
namespace Go.Proofs.YtbhlgkibgajajaaGreatDoor
namespace Rows

/-- THE TIED CARD OF 'stratagemlaw12.PrinterDomain'. -/
def printerDomainCard : Claim7 := { stood := { row := printerDomainRow, standIns := [], harness := (true, "2de4826c3dee4d7cd9ea1ddbbf0362d8570882b7dcaa870fce7f3078ca0c9813"), looks := true }, kinds := [], alts := [], laidByText := true, laidKinds := [.data, .data, .data], laidTests := true, laidLooks := .later }
def PrinterDomainCardSaid : Prop := Claim7.holds Tryz.pinned (.plain (OpenSpec.ofChange printerDomainSpec)) printerDomainCard

/-- THE TIED CARD OF 'stratagemlaw12.PrinterLines'. -/
def printerLinesCard : Claim7 := { stood := { row := printerLinesRow, standIns := [], harness := (true, "2de4826c3dee4d7cd9ea1ddbbf0362d8570882b7dcaa870fce7f3078ca0c9813"), looks := true }, kinds := [], alts := [], laidByText := true, laidKinds := [.data, .data, .data], laidTests := true, laidLooks := .later }
def PrinterLinesCardSaid : Prop := Claim7.holds Tryz.pinned (.plain (OpenSpec.ofChange printerLinesSpec)) printerLinesCard

/-- THE TIED CARD OF 'stratagemlaw12.PrinterProblem'. -/
def printerProblemCard : Claim7 := { stood := { row := printerProblemRow, standIns := [], harness := (true, "2de4826c3dee4d7cd9ea1ddbbf0362d8570882b7dcaa870fce7f3078ca0c9813"), looks := true }, kinds := [], alts := [], laidByText := true, laidKinds := [.data, .data, .data], laidTests := true, laidLooks := .later }
def PrinterProblemCardSaid : Prop := Claim7.holds Tryz.pinned (.plain (OpenSpec.ofChange printerProblemSpec)) printerProblemCard

/-- THE SECOND FORM's CARD OF 'stratagemlaw12.PrinterDomain'. -/
def printerDomainUptoCard : Claim7 := { stood := { row := printerDomainUptoRow, standIns := [], harness := (true, "2de4826c3dee4d7cd9ea1ddbbf0362d8570882b7dcaa870fce7f3078ca0c9813"), looks := true }, kinds := [], alts := [], laidByText := true, laidKinds := [.data, .data, .data], laidTests := true, laidLooks := .later }
def PrinterDomainUptoCardSaid : Prop := Claim7.holds Tryz.pinned (.plain (OpenSpec.upto printerDomainSpec)) printerDomainUptoCard

/-- THE SECOND FORM's CARD OF 'stratagemlaw12.PrinterLines'. -/
def printerLinesUptoCard : Claim7 := { stood := { row := printerLinesUptoRow, standIns := [], harness := (true, "2de4826c3dee4d7cd9ea1ddbbf0362d8570882b7dcaa870fce7f3078ca0c9813"), looks := true }, kinds := [], alts := [], laidByText := true, laidKinds := [.data, .data, .data], laidTests := true, laidLooks := .later }
def PrinterLinesUptoCardSaid : Prop := Claim7.holds Tryz.pinned (.plain (OpenSpec.upto printerLinesSpec)) printerLinesUptoCard

/-- THE SECOND FORM's CARD OF 'stratagemlaw12.PrinterProblem'. -/
def printerProblemUptoCard : Claim7 := { stood := { row := printerProblemUptoRow, standIns := [], harness := (true, "2de4826c3dee4d7cd9ea1ddbbf0362d8570882b7dcaa870fce7f3078ca0c9813"), looks := true }, kinds := [], alts := [], laidByText := true, laidKinds := [.data, .data, .data], laidTests := true, laidLooks := .later }
def PrinterProblemUptoCardSaid : Prop := Claim7.holds Tryz.pinned (.plain (OpenSpec.upto printerProblemSpec)) printerProblemUptoCard
end Rows
end Go.Proofs.YtbhlgkibgajajaaGreatDoor
