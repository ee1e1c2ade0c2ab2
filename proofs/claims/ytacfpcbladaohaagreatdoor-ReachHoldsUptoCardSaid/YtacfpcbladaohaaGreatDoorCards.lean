/-
  DERIVED. GIVEN WITH THE SEED: THE CARDS: each row of YtacfpcbladaohaaGreatDoorRows.lean that lists a variable, with what it lists TIED to the program's text (the seventh form; the later family's looks); each row that meets fmt, with fmt's text TOLD by the authors' own Lean function (tested against real Go, not proved from fmt's source: count such statements apart). THE CARD IS WHAT COUNTS. Prove the row's statement (the work); the ties are given (YtacfpcbladaohaaGreatDoorTie.lean); close each card by the builder's one call (the guide's Derived/Test/ToyasCard.lean, 'card_holds'). Laid BY PROGRAM, IN A SANDBOX (cutbox-door.mjs). By AI agents, Wed Nov 11 2026. No macro, syntax, notation, axiom, sorry.
-/
import Derived.Test.YtacfpcbladaohaaGreatDoorRows
import GoSem.ClaimSeven
namespace Go.Proofs.YtacfpcbladaohaaGreatDoor
namespace Rows

/-- THE TIED CARD OF 'stratagemlaw17.ReachHolds'. -/
def reachHoldsCard : Claim7 := { stood := { row := reachHoldsRow, standIns := [], harness := (true, "9ea1fac7c51713655ca8f88ec94f0e2a6f999b4b79a7e057f491eb097a6b51e3"), looks := true }, kinds := [], alts := [], laidByText := true, laidKinds := [.data, .pinned, .pinned, .pinned, .pinned, .pinned, .pinned], laidTests := true, laidLooks := .later }
def ReachHoldsCardSaid : Prop := Claim7.holds Tryz.pinned (.plain (OpenSpec.ofChange reachHoldsSpec)) reachHoldsCard

/-- THE SECOND FORM's CARD OF 'stratagemlaw17.ReachHolds'. -/
def reachHoldsUptoCard : Claim7 := { stood := { row := reachHoldsUptoRow, standIns := [], harness := (true, "9ea1fac7c51713655ca8f88ec94f0e2a6f999b4b79a7e057f491eb097a6b51e3"), looks := true }, kinds := [], alts := [], laidByText := true, laidKinds := [.data, .pinned, .pinned, .pinned, .pinned, .pinned, .pinned], laidTests := true, laidLooks := .later }
def ReachHoldsUptoCardSaid : Prop := Claim7.holds Tryz.pinned (.plain (OpenSpec.upto reachHoldsSpec)) reachHoldsUptoCard
end Rows
end Go.Proofs.YtacfpcbladaohaaGreatDoor
