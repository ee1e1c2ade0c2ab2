/-
  DERIVED. GIVEN WITH THE SEED: THE CARDS: each row of YtiligkgjcmokbaaGreatDoorRows.lean that lists a variable, with what it lists TIED to the program's text (the seventh form; the later family's looks); each row that meets fmt, with fmt's text TOLD by the authors' own Lean function (tested against real Go, not proved from fmt's source: count such statements apart). THE CARD IS WHAT COUNTS. Prove the row's statement (the work); the ties are given (YtiligkgjcmokbaaGreatDoorTie.lean); close each card by the builder's one call (the guide's Derived/Test/ToyasCard.lean, 'card_holds'). Laid BY PROGRAM, IN A SANDBOX (cutbox-door.mjs). By AI agents, Wed Nov 11 2026. No macro, syntax, notation, axiom, sorry.
-/
import Derived.Test.YtiligkgjcmokbaaGreatDoorRows
import GoSem.ClaimSeven
namespace Go.Proofs.YtiligkgjcmokbaaGreatDoor
namespace Rows

/-- THE TIED CARD OF 'stratagemlaw12.PrinterSorted'. -/
def printerSortedCard : Claim7 := { stood := { row := printerSortedRow, standIns := [], harness := (true, "b17736ef843561a0b5c97de03363be960d5e1b3aa81a356b1cd03871cf34a7dc"), looks := false }, kinds := [], alts := [], laidByText := true, laidKinds := [.data, .data, .data], laidTests := true, laidLooks := .later }
def PrinterSortedCardSaid : Prop := Claim7.holds Tryz.pinned (.plain (OpenSpec.ofChange printerSortedSpec)) printerSortedCard

/-- THE SECOND FORM's CARD OF 'stratagemlaw12.PrinterSorted'. -/
def printerSortedUptoCard : Claim7 := { stood := { row := printerSortedUptoRow, standIns := [], harness := (true, "b17736ef843561a0b5c97de03363be960d5e1b3aa81a356b1cd03871cf34a7dc"), looks := false }, kinds := [], alts := [], laidByText := true, laidKinds := [.data, .data, .data], laidTests := true, laidLooks := .later }
def PrinterSortedUptoCardSaid : Prop := Claim7.holds Tryz.pinned (.plain (OpenSpec.upto printerSortedSpec)) printerSortedUptoCard
end Rows
end Go.Proofs.YtiligkgjcmokbaaGreatDoor
