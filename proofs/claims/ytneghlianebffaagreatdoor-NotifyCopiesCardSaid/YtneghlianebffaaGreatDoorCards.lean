/-
  DERIVED. GIVEN WITH THE SEED: THE CARDS: each row of YtneghlianebffaaGreatDoorRows.lean that lists a variable, with what it lists TIED to the program's text (the seventh form; the later family's looks); each row that meets fmt, with fmt's text TOLD by the authors' own Lean function (tested against real Go, not proved from fmt's source: count such statements apart). THE CARD IS WHAT COUNTS. Prove the row's statement (the work); the ties are given (YtneghlianebffaaGreatDoorTie.lean); close each card by the builder's one call (the guide's Derived/Test/ToyasCard.lean, 'card_holds'). Laid BY PROGRAM, IN A SANDBOX (cutbox-door.mjs). By AI agents, Wed Nov 11 2026. No macro, syntax, notation, axiom, sorry.
-/
import Derived.Test.YtneghlianebffaaGreatDoorRows
import GoSem.ClaimSeven
namespace Go.Proofs.YtneghlianebffaaGreatDoor
namespace Rows

/-- THE TIED CARD OF 'coldpluglaw30.NotifyBehind'. -/
def notifyBehindCard : Claim7 := { stood := { row := notifyBehindRow, standIns := [], harness := (true, "3d6c8cd88d7b1634e48dbdd70ed7b5b5ce15a73bb8dcd74c2c5907c7c9dc7031"), looks := true }, kinds := [], alts := [], laidByText := true, laidKinds := [.data, .pinned, .pinned], laidTests := true, laidLooks := .later }
def NotifyBehindCardSaid : Prop := Claim7.holds Tryz.pinned (.plain (OpenSpec.ofChange notifyBehindSpec)) notifyBehindCard

/-- THE TIED CARD OF 'coldpluglaw30.NotifyFull'. -/
def notifyFullCard : Claim7 := { stood := { row := notifyFullRow, standIns := [], harness := (true, "3d6c8cd88d7b1634e48dbdd70ed7b5b5ce15a73bb8dcd74c2c5907c7c9dc7031"), looks := true }, kinds := [], alts := [], laidByText := true, laidKinds := [.data, .pinned, .pinned], laidTests := true, laidLooks := .later }
def NotifyFullCardSaid : Prop := Claim7.holds Tryz.pinned (.plain (OpenSpec.ofChange notifyFullSpec)) notifyFullCard

/-- THE TIED CARD OF 'coldpluglaw30.NotifyParents'. -/
def notifyParentsCard : Claim7 := { stood := { row := notifyParentsRow, standIns := [], harness := (true, "3d6c8cd88d7b1634e48dbdd70ed7b5b5ce15a73bb8dcd74c2c5907c7c9dc7031"), looks := true }, kinds := [], alts := [], laidByText := true, laidKinds := [.data, .pinned, .pinned], laidTests := true, laidLooks := .later }
def NotifyParentsCardSaid : Prop := Claim7.holds Tryz.pinned (.plain (OpenSpec.ofChange notifyParentsSpec)) notifyParentsCard

/-- THE TIED CARD OF 'coldpluglaw30.NotifyAlone'. -/
def notifyAloneCard : Claim7 := { stood := { row := notifyAloneRow, standIns := [], harness := (true, "3d6c8cd88d7b1634e48dbdd70ed7b5b5ce15a73bb8dcd74c2c5907c7c9dc7031"), looks := true }, kinds := [], alts := [], laidByText := true, laidKinds := [.data, .pinned, .pinned], laidTests := true, laidLooks := .later }
def NotifyAloneCardSaid : Prop := Claim7.holds Tryz.pinned (.plain (OpenSpec.ofChange notifyAloneSpec)) notifyAloneCard

/-- THE TIED CARD OF 'coldpluglaw30.NotifyPlays'. -/
def notifyPlaysCard : Claim7 := { stood := { row := notifyPlaysRow, standIns := [], harness := (true, "3d6c8cd88d7b1634e48dbdd70ed7b5b5ce15a73bb8dcd74c2c5907c7c9dc7031"), looks := true }, kinds := [], alts := [], laidByText := true, laidKinds := [.data, .pinned, .pinned], laidTests := true, laidLooks := .later }
def NotifyPlaysCardSaid : Prop := Claim7.holds Tryz.pinned (.plain (OpenSpec.ofChange notifyPlaysSpec)) notifyPlaysCard

/-- THE TIED CARD OF 'coldpluglaw30.NotifyFilters'. -/
def notifyFiltersCard : Claim7 := { stood := { row := notifyFiltersRow, standIns := [], harness := (true, "3d6c8cd88d7b1634e48dbdd70ed7b5b5ce15a73bb8dcd74c2c5907c7c9dc7031"), looks := true }, kinds := [], alts := [], laidByText := true, laidKinds := [.data, .pinned, .pinned], laidTests := true, laidLooks := .later }
def NotifyFiltersCardSaid : Prop := Claim7.holds Tryz.pinned (.plain (OpenSpec.ofChange notifyFiltersSpec)) notifyFiltersCard

/-- THE TIED CARD OF 'coldpluglaw30.NotifyCopies'. -/
def notifyCopiesCard : Claim7 := { stood := { row := notifyCopiesRow, standIns := [], harness := (true, "3d6c8cd88d7b1634e48dbdd70ed7b5b5ce15a73bb8dcd74c2c5907c7c9dc7031"), looks := true }, kinds := [], alts := [], laidByText := true, laidKinds := [.data, .pinned, .pinned], laidTests := true, laidLooks := .later }
def NotifyCopiesCardSaid : Prop := Claim7.holds Tryz.pinned (.plain (OpenSpec.ofChange notifyCopiesSpec)) notifyCopiesCard

/-- THE TIED CARD OF 'coldpluglaw30.NotifyViews'. -/
def notifyViewsCard : Claim7 := { stood := { row := notifyViewsRow, standIns := [], harness := (true, "3d6c8cd88d7b1634e48dbdd70ed7b5b5ce15a73bb8dcd74c2c5907c7c9dc7031"), looks := true }, kinds := [], alts := [], laidByText := true, laidKinds := [.data, .pinned, .pinned], laidTests := true, laidLooks := .later }
def NotifyViewsCardSaid : Prop := Claim7.holds Tryz.pinned (.plain (OpenSpec.ofChange notifyViewsSpec)) notifyViewsCard

/-- THE TIED CARD OF 'coldpluglaw30.NotifyTells'. -/
def notifyTellsCard : Claim7 := { stood := { row := notifyTellsRow, standIns := [], harness := (true, "3d6c8cd88d7b1634e48dbdd70ed7b5b5ce15a73bb8dcd74c2c5907c7c9dc7031"), looks := true }, kinds := [], alts := [], laidByText := true, laidKinds := [.data, .pinned, .pinned], laidTests := true, laidLooks := .later }
def NotifyTellsCardSaid : Prop := Claim7.holds Tryz.pinned (.plain (OpenSpec.ofChange notifyTellsSpec)) notifyTellsCard

/-- THE SECOND FORM's CARD OF 'coldpluglaw30.NotifyBehind'. -/
def notifyBehindUptoCard : Claim7 := { stood := { row := notifyBehindUptoRow, standIns := [], harness := (true, "3d6c8cd88d7b1634e48dbdd70ed7b5b5ce15a73bb8dcd74c2c5907c7c9dc7031"), looks := true }, kinds := [], alts := [], laidByText := true, laidKinds := [.data, .pinned, .pinned], laidTests := true, laidLooks := .later }
def NotifyBehindUptoCardSaid : Prop := Claim7.holds Tryz.pinned (.plain (OpenSpec.upto notifyBehindSpec)) notifyBehindUptoCard

/-- THE SECOND FORM's CARD OF 'coldpluglaw30.NotifyFull'. -/
def notifyFullUptoCard : Claim7 := { stood := { row := notifyFullUptoRow, standIns := [], harness := (true, "3d6c8cd88d7b1634e48dbdd70ed7b5b5ce15a73bb8dcd74c2c5907c7c9dc7031"), looks := true }, kinds := [], alts := [], laidByText := true, laidKinds := [.data, .pinned, .pinned], laidTests := true, laidLooks := .later }
def NotifyFullUptoCardSaid : Prop := Claim7.holds Tryz.pinned (.plain (OpenSpec.upto notifyFullSpec)) notifyFullUptoCard

/-- THE SECOND FORM's CARD OF 'coldpluglaw30.NotifyParents'. -/
def notifyParentsUptoCard : Claim7 := { stood := { row := notifyParentsUptoRow, standIns := [], harness := (true, "3d6c8cd88d7b1634e48dbdd70ed7b5b5ce15a73bb8dcd74c2c5907c7c9dc7031"), looks := true }, kinds := [], alts := [], laidByText := true, laidKinds := [.data, .pinned, .pinned], laidTests := true, laidLooks := .later }
def NotifyParentsUptoCardSaid : Prop := Claim7.holds Tryz.pinned (.plain (OpenSpec.upto notifyParentsSpec)) notifyParentsUptoCard

/-- THE SECOND FORM's CARD OF 'coldpluglaw30.NotifyAlone'. -/
def notifyAloneUptoCard : Claim7 := { stood := { row := notifyAloneUptoRow, standIns := [], harness := (true, "3d6c8cd88d7b1634e48dbdd70ed7b5b5ce15a73bb8dcd74c2c5907c7c9dc7031"), looks := true }, kinds := [], alts := [], laidByText := true, laidKinds := [.data, .pinned, .pinned], laidTests := true, laidLooks := .later }
def NotifyAloneUptoCardSaid : Prop := Claim7.holds Tryz.pinned (.plain (OpenSpec.upto notifyAloneSpec)) notifyAloneUptoCard

/-- THE SECOND FORM's CARD OF 'coldpluglaw30.NotifyPlays'. -/
def notifyPlaysUptoCard : Claim7 := { stood := { row := notifyPlaysUptoRow, standIns := [], harness := (true, "3d6c8cd88d7b1634e48dbdd70ed7b5b5ce15a73bb8dcd74c2c5907c7c9dc7031"), looks := true }, kinds := [], alts := [], laidByText := true, laidKinds := [.data, .pinned, .pinned], laidTests := true, laidLooks := .later }
def NotifyPlaysUptoCardSaid : Prop := Claim7.holds Tryz.pinned (.plain (OpenSpec.upto notifyPlaysSpec)) notifyPlaysUptoCard

/-- THE SECOND FORM's CARD OF 'coldpluglaw30.NotifyFilters'. -/
def notifyFiltersUptoCard : Claim7 := { stood := { row := notifyFiltersUptoRow, standIns := [], harness := (true, "3d6c8cd88d7b1634e48dbdd70ed7b5b5ce15a73bb8dcd74c2c5907c7c9dc7031"), looks := true }, kinds := [], alts := [], laidByText := true, laidKinds := [.data, .pinned, .pinned], laidTests := true, laidLooks := .later }
def NotifyFiltersUptoCardSaid : Prop := Claim7.holds Tryz.pinned (.plain (OpenSpec.upto notifyFiltersSpec)) notifyFiltersUptoCard

/-- THE SECOND FORM's CARD OF 'coldpluglaw30.NotifyCopies'. -/
def notifyCopiesUptoCard : Claim7 := { stood := { row := notifyCopiesUptoRow, standIns := [], harness := (true, "3d6c8cd88d7b1634e48dbdd70ed7b5b5ce15a73bb8dcd74c2c5907c7c9dc7031"), looks := true }, kinds := [], alts := [], laidByText := true, laidKinds := [.data, .pinned, .pinned], laidTests := true, laidLooks := .later }
def NotifyCopiesUptoCardSaid : Prop := Claim7.holds Tryz.pinned (.plain (OpenSpec.upto notifyCopiesSpec)) notifyCopiesUptoCard

/-- THE SECOND FORM's CARD OF 'coldpluglaw30.NotifyViews'. -/
def notifyViewsUptoCard : Claim7 := { stood := { row := notifyViewsUptoRow, standIns := [], harness := (true, "3d6c8cd88d7b1634e48dbdd70ed7b5b5ce15a73bb8dcd74c2c5907c7c9dc7031"), looks := true }, kinds := [], alts := [], laidByText := true, laidKinds := [.data, .pinned, .pinned], laidTests := true, laidLooks := .later }
def NotifyViewsUptoCardSaid : Prop := Claim7.holds Tryz.pinned (.plain (OpenSpec.upto notifyViewsSpec)) notifyViewsUptoCard

/-- THE SECOND FORM's CARD OF 'coldpluglaw30.NotifyTells'. -/
def notifyTellsUptoCard : Claim7 := { stood := { row := notifyTellsUptoRow, standIns := [], harness := (true, "3d6c8cd88d7b1634e48dbdd70ed7b5b5ce15a73bb8dcd74c2c5907c7c9dc7031"), looks := true }, kinds := [], alts := [], laidByText := true, laidKinds := [.data, .pinned, .pinned], laidTests := true, laidLooks := .later }
def NotifyTellsUptoCardSaid : Prop := Claim7.holds Tryz.pinned (.plain (OpenSpec.upto notifyTellsSpec)) notifyTellsUptoCard
end Rows
end Go.Proofs.YtneghlianebffaaGreatDoor
