/-
  DERIVED. GIVEN WITH THE SEED: THE CARDS: each row of YtbnpeechpebmeaaGreatDoorRows.lean that lists a variable, with what it lists TIED to the program's text (the seventh form; the later family's looks); each row that meets fmt, with fmt's text TOLD by the authors' own Lean function (tested against real Go, not proved from fmt's source: count such statements apart). THE CARD IS WHAT COUNTS. Prove the row's statement (the work); the ties are given (YtbnpeechpebmeaaGreatDoorTie.lean); close each card by the builder's one call (the guide's Derived/Test/ToyasCard.lean, 'card_holds'). Laid BY PROGRAM, IN A SANDBOX (cutbox-door.mjs). By AI agents, Wed Nov 11 2026. No macro, syntax, notation, axiom, sorry.
-/
import Derived.Test.YtbnpeechpebmeaaGreatDoorRows
import GoSem.ClaimSeven
namespace Go.Proofs.YtbnpeechpebmeaaGreatDoor
namespace Rows

/-- THE TIED CARD OF 'stratagemlaw17.ReachTerms'. -/
def reachTermsCard : Claim7 := { stood := { row := reachTermsRow, standIns := [], harness := (true, "89dcb47683cbbbd173cc7abd20639a7292656556bd0050d5eb3a3a018930208b"), looks := true }, kinds := [], alts := [], laidByText := true, laidKinds := [.data, .pinned, .pinned, .pinned, .pinned, .pinned, .pinned], laidTests := true, laidLooks := .later }
def ReachTermsCardSaid : Prop := Claim7.holds Tryz.pinned (.plain (OpenSpec.ofChange reachTermsSpec)) reachTermsCard

/-- THE TIED CARD OF 'stratagemlaw17.ReachInitial'. -/
def reachInitialCard : Claim7 := { stood := { row := reachInitialRow, standIns := [], harness := (true, "89dcb47683cbbbd173cc7abd20639a7292656556bd0050d5eb3a3a018930208b"), looks := true }, kinds := [], alts := [], laidByText := true, laidKinds := [.data, .pinned, .pinned, .pinned, .pinned, .pinned, .pinned], laidTests := true, laidLooks := .later }
def ReachInitialCardSaid : Prop := Claim7.holds Tryz.pinned (.plain (OpenSpec.ofChange reachInitialSpec)) reachInitialCard

/-- THE SECOND FORM's CARD OF 'stratagemlaw17.ReachTerms'. -/
def reachTermsUptoCard : Claim7 := { stood := { row := reachTermsUptoRow, standIns := [], harness := (true, "89dcb47683cbbbd173cc7abd20639a7292656556bd0050d5eb3a3a018930208b"), looks := true }, kinds := [], alts := [], laidByText := true, laidKinds := [.data, .pinned, .pinned, .pinned, .pinned, .pinned, .pinned], laidTests := true, laidLooks := .later }
def ReachTermsUptoCardSaid : Prop := Claim7.holds Tryz.pinned (.plain (OpenSpec.upto reachTermsSpec)) reachTermsUptoCard

/-- THE SECOND FORM's CARD OF 'stratagemlaw17.ReachInitial'. -/
def reachInitialUptoCard : Claim7 := { stood := { row := reachInitialUptoRow, standIns := [], harness := (true, "89dcb47683cbbbd173cc7abd20639a7292656556bd0050d5eb3a3a018930208b"), looks := true }, kinds := [], alts := [], laidByText := true, laidKinds := [.data, .pinned, .pinned, .pinned, .pinned, .pinned, .pinned], laidTests := true, laidLooks := .later }
def ReachInitialUptoCardSaid : Prop := Claim7.holds Tryz.pinned (.plain (OpenSpec.upto reachInitialSpec)) reachInitialUptoCard
end Rows
end Go.Proofs.YtbnpeechpebmeaaGreatDoor
