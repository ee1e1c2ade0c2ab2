/-
  DERIVED. GIVEN WITH THE SEED: THE CARDS: each row of YtbdpaoikccabhaaGreatDoorRows.lean that lists a variable, with what it lists TIED to the program's text (the seventh form; the later family's looks); each row that meets fmt, with fmt's text TOLD by the authors' own Lean function (tested against real Go, not proved from fmt's source: count such statements apart). THE CARD IS WHAT COUNTS. Prove the row's statement (the work); the ties are given (YtbdpaoikccabhaaGreatDoorTie.lean); close each card by the builder's one call (the guide's Derived/Test/ToyasCard.lean, 'card_holds'). Laid BY PROGRAM, IN A SANDBOX (cutbox-door.mjs). By AI agents, Wed Nov 11 2026. No macro, syntax, notation, axiom, sorry.
-/
import Derived.Test.YtbdpaoikccabhaaGreatDoorRows
import GoSem.ClaimSeven
namespace Go.Proofs.YtbdpaoikccabhaaGreatDoor
namespace Rows

/-- THE TIED CARD OF 'stratagemlaw17.ReachExact'. -/
def reachExactCard : Claim7 := { stood := { row := reachExactRow, standIns := [], harness := (true, "9545f6d916d406c9a87214e2a51e49e88a74c7aa6b730a6a6f1e8acd3aff5997"), looks := false }, kinds := [], alts := [], laidByText := true, laidKinds := [.data, .pinned, .pinned, .pinned, .pinned, .pinned, .pinned], laidTests := true, laidLooks := .later }
def ReachExactCardSaid : Prop := Claim7.holds Tryz.pinned (.plain (OpenSpec.ofChange reachExactSpec)) reachExactCard

/-- THE SECOND FORM's CARD OF 'stratagemlaw17.ReachExact'. -/
def reachExactUptoCard : Claim7 := { stood := { row := reachExactUptoRow, standIns := [], harness := (true, "9545f6d916d406c9a87214e2a51e49e88a74c7aa6b730a6a6f1e8acd3aff5997"), looks := false }, kinds := [], alts := [], laidByText := true, laidKinds := [.data, .pinned, .pinned, .pinned, .pinned, .pinned, .pinned], laidTests := true, laidLooks := .later }
def ReachExactUptoCardSaid : Prop := Claim7.holds Tryz.pinned (.plain (OpenSpec.upto reachExactSpec)) reachExactUptoCard
end Rows
end Go.Proofs.YtbdpaoikccabhaaGreatDoor
