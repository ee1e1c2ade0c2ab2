/-
  DERIVED. GIVEN WITH THE SEED: THE CARDS: each row of YtegmololhnipiaaGreatDoorRows.lean that lists a variable, with what it lists TIED to the program's text (the seventh form; the later family's looks); each row that meets fmt, with fmt's text TOLD by the authors' own Lean function (tested against real Go, not proved from fmt's source: count such statements apart). THE CARD IS WHAT COUNTS. Prove the row's statement (the work); the ties are given (YtegmololhnipiaaGreatDoorTie.lean); close each card by the builder's one call (the guide's Derived/Test/ToyasCard.lean, 'card_holds'). Laid BY PROGRAM, IN A SANDBOX (cutbox-door.mjs). By AI agents, Wed Nov 11 2026. No macro, syntax, notation, axiom, sorry.
-/
import Derived.Test.YtegmololhnipiaaGreatDoorRows
import GoSem.ClaimSeven
namespace Go.Proofs.YtegmololhnipiaaGreatDoor
namespace Rows

/-- THE TIED CARD OF 'stratagemlaw18.GroundValid'. -/
def groundValidCard : Claim7 := { stood := { row := groundValidRow, standIns := [], harness := (true, "ab1aa06afb00d77ca39ee6fb824e7ab2efda6c0a6be83d62a49415d5c7b15bda"), looks := true }, kinds := [], alts := [], laidByText := true, laidKinds := [.data, .pinned, .pinned, .pinned, .pinned, .pinned, .pinned], laidTests := true, laidLooks := .later }
def GroundValidCardSaid : Prop := Claim7.holds Tryz.pinned (.plain (OpenSpec.ofChange groundValidSpec)) groundValidCard

/-- THE TIED CARD OF 'stratagemlaw18.GroundFrame'. -/
def groundFrameCard : Claim7 := { stood := { row := groundFrameRow, standIns := [], harness := (true, "ab1aa06afb00d77ca39ee6fb824e7ab2efda6c0a6be83d62a49415d5c7b15bda"), looks := true }, kinds := [], alts := [], laidByText := true, laidKinds := [.data, .pinned, .pinned, .pinned, .pinned, .pinned, .pinned], laidTests := true, laidLooks := .later }
def GroundFrameCardSaid : Prop := Claim7.holds Tryz.pinned (.plain (OpenSpec.ofChange groundFrameSpec)) groundFrameCard

/-- THE TIED CARD OF 'stratagemlaw18.GroundApplies'. -/
def groundAppliesCard : Claim7 := { stood := { row := groundAppliesRow, standIns := [], harness := (true, "ab1aa06afb00d77ca39ee6fb824e7ab2efda6c0a6be83d62a49415d5c7b15bda"), looks := true }, kinds := [], alts := [], laidByText := true, laidKinds := [.data, .pinned, .pinned, .pinned, .pinned, .pinned, .pinned], laidTests := true, laidLooks := .later }
def GroundAppliesCardSaid : Prop := Claim7.holds Tryz.pinned (.plain (OpenSpec.ofChange groundAppliesSpec)) groundAppliesCard

/-- THE TIED CARD OF 'stratagemlaw18.GroundHolds'. -/
def groundHoldsCard : Claim7 := { stood := { row := groundHoldsRow, standIns := [], harness := (true, "ab1aa06afb00d77ca39ee6fb824e7ab2efda6c0a6be83d62a49415d5c7b15bda"), looks := true }, kinds := [], alts := [], laidByText := true, laidKinds := [.data, .pinned, .pinned, .pinned, .pinned, .pinned, .pinned], laidTests := true, laidLooks := .later }
def GroundHoldsCardSaid : Prop := Claim7.holds Tryz.pinned (.plain (OpenSpec.ofChange groundHoldsSpec)) groundHoldsCard

/-- THE SECOND FORM's CARD OF 'stratagemlaw18.GroundValid'. -/
def groundValidUptoCard : Claim7 := { stood := { row := groundValidUptoRow, standIns := [], harness := (true, "ab1aa06afb00d77ca39ee6fb824e7ab2efda6c0a6be83d62a49415d5c7b15bda"), looks := true }, kinds := [], alts := [], laidByText := true, laidKinds := [.data, .pinned, .pinned, .pinned, .pinned, .pinned, .pinned], laidTests := true, laidLooks := .later }
def GroundValidUptoCardSaid : Prop := Claim7.holds Tryz.pinned (.plain (OpenSpec.upto groundValidSpec)) groundValidUptoCard

/-- THE SECOND FORM's CARD OF 'stratagemlaw18.GroundFrame'. -/
def groundFrameUptoCard : Claim7 := { stood := { row := groundFrameUptoRow, standIns := [], harness := (true, "ab1aa06afb00d77ca39ee6fb824e7ab2efda6c0a6be83d62a49415d5c7b15bda"), looks := true }, kinds := [], alts := [], laidByText := true, laidKinds := [.data, .pinned, .pinned, .pinned, .pinned, .pinned, .pinned], laidTests := true, laidLooks := .later }
def GroundFrameUptoCardSaid : Prop := Claim7.holds Tryz.pinned (.plain (OpenSpec.upto groundFrameSpec)) groundFrameUptoCard

/-- THE SECOND FORM's CARD OF 'stratagemlaw18.GroundApplies'. -/
def groundAppliesUptoCard : Claim7 := { stood := { row := groundAppliesUptoRow, standIns := [], harness := (true, "ab1aa06afb00d77ca39ee6fb824e7ab2efda6c0a6be83d62a49415d5c7b15bda"), looks := true }, kinds := [], alts := [], laidByText := true, laidKinds := [.data, .pinned, .pinned, .pinned, .pinned, .pinned, .pinned], laidTests := true, laidLooks := .later }
def GroundAppliesUptoCardSaid : Prop := Claim7.holds Tryz.pinned (.plain (OpenSpec.upto groundAppliesSpec)) groundAppliesUptoCard

/-- THE SECOND FORM's CARD OF 'stratagemlaw18.GroundHolds'. -/
def groundHoldsUptoCard : Claim7 := { stood := { row := groundHoldsUptoRow, standIns := [], harness := (true, "ab1aa06afb00d77ca39ee6fb824e7ab2efda6c0a6be83d62a49415d5c7b15bda"), looks := true }, kinds := [], alts := [], laidByText := true, laidKinds := [.data, .pinned, .pinned, .pinned, .pinned, .pinned, .pinned], laidTests := true, laidLooks := .later }
def GroundHoldsUptoCardSaid : Prop := Claim7.holds Tryz.pinned (.plain (OpenSpec.upto groundHoldsSpec)) groundHoldsUptoCard
end Rows
end Go.Proofs.YtegmololhnipiaaGreatDoor
