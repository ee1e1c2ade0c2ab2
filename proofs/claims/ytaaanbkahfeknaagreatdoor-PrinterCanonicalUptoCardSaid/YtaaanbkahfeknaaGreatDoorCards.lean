/-
  DERIVED. GIVEN WITH THE SEED: THE CARDS: each row of YtaaanbkahfeknaaGreatDoorRows.lean that lists a variable, with what it lists TIED to the program's text (the seventh form; the later family's looks); each row that meets fmt, with fmt's text TOLD by the authors' own Lean function (tested against real Go, not proved from fmt's source: count such statements apart). THE CARD IS WHAT COUNTS. Prove the row's statement (the work); the ties are given (YtaaanbkahfeknaaGreatDoorTie.lean); close each card by the builder's one call (the guide's Derived/Test/ToyasCard.lean, 'card_holds'). Laid BY PROGRAM, IN A SANDBOX (cutbox-door.mjs). By AI agents, Wed Nov 11 2026. No macro, syntax, notation, axiom, sorry.
-/
import Derived.Test.YtaaanbkahfeknaaGreatDoorRows
import GoSem.ClaimSeven
namespace Go.Proofs.YtaaanbkahfeknaaGreatDoor
namespace Rows

/-- THE TIED CARD OF 'stratagemlaw12.PrinterCanonical'. -/
def printerCanonicalCard : Claim7 := { stood := { row := printerCanonicalRow, standIns := [], harness := (true, "0d63c431c8aa0602db216ab84ce159532fd0931f6ecb10f78be8264e7f232191"), looks := false }, kinds := [], alts := [], laidByText := true, laidKinds := [.data, .data, .data], laidTests := true, laidLooks := .later }
def PrinterCanonicalCardSaid : Prop := Claim7.holds Tryz.pinned (.plain (OpenSpec.ofChange printerCanonicalSpec)) printerCanonicalCard

/-- THE SECOND FORM's CARD OF 'stratagemlaw12.PrinterCanonical'. -/
def printerCanonicalUptoCard : Claim7 := { stood := { row := printerCanonicalUptoRow, standIns := [], harness := (true, "0d63c431c8aa0602db216ab84ce159532fd0931f6ecb10f78be8264e7f232191"), looks := false }, kinds := [], alts := [], laidByText := true, laidKinds := [.data, .data, .data], laidTests := true, laidLooks := .later }
def PrinterCanonicalUptoCardSaid : Prop := Claim7.holds Tryz.pinned (.plain (OpenSpec.upto printerCanonicalSpec)) printerCanonicalUptoCard
end Rows
end Go.Proofs.YtaaanbkahfeknaaGreatDoor
