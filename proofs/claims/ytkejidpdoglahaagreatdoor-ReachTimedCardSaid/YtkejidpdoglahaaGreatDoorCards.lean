/-
  DERIVED. GIVEN WITH THE SEED: THE CARDS: each row of YtkejidpdoglahaaGreatDoorRows.lean that lists a variable, with what it lists TIED to the program's text (the seventh form; the later family's looks); each row that meets fmt, with fmt's text TOLD by the authors' own Lean function (tested against real Go, not proved from fmt's source: count such statements apart). THE CARD IS WHAT COUNTS. Prove the row's statement (the work); the ties are given (YtkejidpdoglahaaGreatDoorTie.lean); close each card by the builder's one call (the guide's Derived/Test/ToyasCard.lean, 'card_holds'). Laid BY PROGRAM, IN A SANDBOX (cutbox-door.mjs). By AI agents, Wed Nov 11 2026. No macro, syntax, notation, axiom, sorry.
-/
import Derived.Test.YtkejidpdoglahaaGreatDoorRows
import GoSem.ClaimSeven
namespace Go.Proofs.YtkejidpdoglahaaGreatDoor
namespace Rows

/-- THE TIED CARD OF 'stratagemlaw17.ReachAtoms'. -/
def reachAtomsCard : Claim7 := { stood := { row := reachAtomsRow, standIns := [], harness := (true, "25060d206ac88fad864e67be1b16567ed3e301d2963e3e478ae7edd59dac03e0"), looks := true }, kinds := [], alts := [], laidByText := true, laidKinds := [.data, .pinned, .pinned, .pinned, .pinned, .pinned, .pinned], laidTests := true, laidLooks := .later }
def ReachAtomsCardSaid : Prop := Claim7.holds Tryz.pinned (.plain (OpenSpec.ofChange reachAtomsSpec)) reachAtomsCard

/-- THE TIED CARD OF 'stratagemlaw17.ReachInstances'. -/
def reachInstancesCard : Claim7 := { stood := { row := reachInstancesRow, standIns := [], harness := (true, "25060d206ac88fad864e67be1b16567ed3e301d2963e3e478ae7edd59dac03e0"), looks := true }, kinds := [], alts := [], laidByText := true, laidKinds := [.data, .pinned, .pinned, .pinned, .pinned, .pinned, .pinned], laidTests := true, laidLooks := .later }
def ReachInstancesCardSaid : Prop := Claim7.holds Tryz.pinned (.plain (OpenSpec.ofChange reachInstancesSpec)) reachInstancesCard

/-- THE TIED CARD OF 'stratagemlaw17.ReachTerms'. -/
def reachTermsCard : Claim7 := { stood := { row := reachTermsRow, standIns := [], harness := (true, "25060d206ac88fad864e67be1b16567ed3e301d2963e3e478ae7edd59dac03e0"), looks := true }, kinds := [], alts := [], laidByText := true, laidKinds := [.data, .pinned, .pinned, .pinned, .pinned, .pinned, .pinned], laidTests := true, laidLooks := .later }
def ReachTermsCardSaid : Prop := Claim7.holds Tryz.pinned (.plain (OpenSpec.ofChange reachTermsSpec)) reachTermsCard

/-- THE TIED CARD OF 'stratagemlaw17.ReachTimed'. -/
def reachTimedCard : Claim7 := { stood := { row := reachTimedRow, standIns := [], harness := (true, "25060d206ac88fad864e67be1b16567ed3e301d2963e3e478ae7edd59dac03e0"), looks := true }, kinds := [], alts := [], laidByText := true, laidKinds := [.data, .pinned, .pinned, .pinned, .pinned, .pinned, .pinned], laidTests := true, laidLooks := .later }
def ReachTimedCardSaid : Prop := Claim7.holds Tryz.pinned (.plain (OpenSpec.ofChange reachTimedSpec)) reachTimedCard

/-- THE TIED CARD OF 'stratagemlaw17.ReachInitial'. -/
def reachInitialCard : Claim7 := { stood := { row := reachInitialRow, standIns := [], harness := (true, "25060d206ac88fad864e67be1b16567ed3e301d2963e3e478ae7edd59dac03e0"), looks := true }, kinds := [], alts := [], laidByText := true, laidKinds := [.data, .pinned, .pinned, .pinned, .pinned, .pinned, .pinned], laidTests := true, laidLooks := .later }
def ReachInitialCardSaid : Prop := Claim7.holds Tryz.pinned (.plain (OpenSpec.ofChange reachInitialSpec)) reachInitialCard

/-- THE SECOND FORM's CARD OF 'stratagemlaw17.ReachAtoms'. -/
def reachAtomsUptoCard : Claim7 := { stood := { row := reachAtomsUptoRow, standIns := [], harness := (true, "25060d206ac88fad864e67be1b16567ed3e301d2963e3e478ae7edd59dac03e0"), looks := true }, kinds := [], alts := [], laidByText := true, laidKinds := [.data, .pinned, .pinned, .pinned, .pinned, .pinned, .pinned], laidTests := true, laidLooks := .later }
def ReachAtomsUptoCardSaid : Prop := Claim7.holds Tryz.pinned (.plain (OpenSpec.upto reachAtomsSpec)) reachAtomsUptoCard

/-- THE SECOND FORM's CARD OF 'stratagemlaw17.ReachInstances'. -/
def reachInstancesUptoCard : Claim7 := { stood := { row := reachInstancesUptoRow, standIns := [], harness := (true, "25060d206ac88fad864e67be1b16567ed3e301d2963e3e478ae7edd59dac03e0"), looks := true }, kinds := [], alts := [], laidByText := true, laidKinds := [.data, .pinned, .pinned, .pinned, .pinned, .pinned, .pinned], laidTests := true, laidLooks := .later }
def ReachInstancesUptoCardSaid : Prop := Claim7.holds Tryz.pinned (.plain (OpenSpec.upto reachInstancesSpec)) reachInstancesUptoCard

/-- THE SECOND FORM's CARD OF 'stratagemlaw17.ReachTerms'. -/
def reachTermsUptoCard : Claim7 := { stood := { row := reachTermsUptoRow, standIns := [], harness := (true, "25060d206ac88fad864e67be1b16567ed3e301d2963e3e478ae7edd59dac03e0"), looks := true }, kinds := [], alts := [], laidByText := true, laidKinds := [.data, .pinned, .pinned, .pinned, .pinned, .pinned, .pinned], laidTests := true, laidLooks := .later }
def ReachTermsUptoCardSaid : Prop := Claim7.holds Tryz.pinned (.plain (OpenSpec.upto reachTermsSpec)) reachTermsUptoCard

/-- THE SECOND FORM's CARD OF 'stratagemlaw17.ReachTimed'. -/
def reachTimedUptoCard : Claim7 := { stood := { row := reachTimedUptoRow, standIns := [], harness := (true, "25060d206ac88fad864e67be1b16567ed3e301d2963e3e478ae7edd59dac03e0"), looks := true }, kinds := [], alts := [], laidByText := true, laidKinds := [.data, .pinned, .pinned, .pinned, .pinned, .pinned, .pinned], laidTests := true, laidLooks := .later }
def ReachTimedUptoCardSaid : Prop := Claim7.holds Tryz.pinned (.plain (OpenSpec.upto reachTimedSpec)) reachTimedUptoCard

/-- THE SECOND FORM's CARD OF 'stratagemlaw17.ReachInitial'. -/
def reachInitialUptoCard : Claim7 := { stood := { row := reachInitialUptoRow, standIns := [], harness := (true, "25060d206ac88fad864e67be1b16567ed3e301d2963e3e478ae7edd59dac03e0"), looks := true }, kinds := [], alts := [], laidByText := true, laidKinds := [.data, .pinned, .pinned, .pinned, .pinned, .pinned, .pinned], laidTests := true, laidLooks := .later }
def ReachInitialUptoCardSaid : Prop := Claim7.holds Tryz.pinned (.plain (OpenSpec.upto reachInitialSpec)) reachInitialUptoCard
end Rows
end Go.Proofs.YtkejidpdoglahaaGreatDoor
