/-
  DERIVED. GIVEN WITH THE SEED: THE CARDS: each row of YtdbfccanbbbjkaaGreatDoorRows.lean that lists a variable, with what it lists TIED to the program's text (the seventh form; the later family's looks); each row that meets fmt, with fmt's text TOLD by the authors' own Lean function (tested against real Go, not proved from fmt's source: count such statements apart). THE CARD IS WHAT COUNTS. Prove the row's statement (the work); the ties are given (YtdbfccanbbbjkaaGreatDoorTie.lean); close each card by the builder's one call (the guide's Derived/Test/ToyasCard.lean, 'card_holds'). Laid BY PROGRAM, IN A SANDBOX (cutbox-door.mjs). By AI agents, Wed Nov 11 2026. No macro, syntax, notation, axiom, sorry.
-/
import Derived.Test.YtdbfccanbbbjkaaGreatDoorRows
import GoSem.ClaimSeven
namespace Go.Proofs.YtdbfccanbbbjkaaGreatDoor
namespace Rows

/-- THE TIED CARD OF 'stratagemlaw17.ReachSound'. -/
def reachSoundCard : Claim7 := { stood := { row := reachSoundRow, standIns := [], harness := (true, "5a801aa40906d94e1b927ce8d6e05f9658bbb3eaa7e2e0bd17a72b81c63da737"), looks := true }, kinds := [], alts := [], laidByText := true, laidKinds := [.data, .pinned, .pinned, .pinned, .pinned, .pinned, .pinned], laidTests := true, laidLooks := .later }
def ReachSoundCardSaid : Prop := Claim7.holds Tryz.pinned (.plain (OpenSpec.ofChange reachSoundSpec)) reachSoundCard

/-- THE SECOND FORM's CARD OF 'stratagemlaw17.ReachSound'. -/
def reachSoundUptoCard : Claim7 := { stood := { row := reachSoundUptoRow, standIns := [], harness := (true, "5a801aa40906d94e1b927ce8d6e05f9658bbb3eaa7e2e0bd17a72b81c63da737"), looks := true }, kinds := [], alts := [], laidByText := true, laidKinds := [.data, .pinned, .pinned, .pinned, .pinned, .pinned, .pinned], laidTests := true, laidLooks := .later }
def ReachSoundUptoCardSaid : Prop := Claim7.holds Tryz.pinned (.plain (OpenSpec.upto reachSoundSpec)) reachSoundUptoCard
end Rows
end Go.Proofs.YtdbfccanbbbjkaaGreatDoor
