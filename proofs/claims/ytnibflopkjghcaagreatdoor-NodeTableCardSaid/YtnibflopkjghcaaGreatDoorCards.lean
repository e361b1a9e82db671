/-
  DERIVED. GIVEN WITH THE SEED: THE CARDS: each row of YtnibflopkjghcaaGreatDoorRows.lean that lists a variable, with what it lists TIED to the program's text (the seventh form; the later family's looks); each row that meets fmt, with fmt's text TOLD by the authors' own Lean function (tested against real Go, not proved from fmt's source: count such statements apart). THE CARD IS WHAT COUNTS. Prove the row's statement (the work); the ties are given (YtnibflopkjghcaaGreatDoorTie.lean); close each card by the builder's one call (the guide's Derived/Test/ToyasCard.lean, 'card_holds'). Laid BY PROGRAM, IN A SANDBOX (cutbox-door.mjs). By AI agents, Wed Nov 11 2026. No macro, syntax, notation, axiom, sorry.
-/
import Derived.Test.YtnibflopkjghcaaGreatDoorRows
import GoSem.ClaimSeven
namespace Go.Proofs.YtnibflopkjghcaaGreatDoor
namespace Rows

/-- THE TIED CARD OF 'coldpluglaw22.NodeMakes'. -/
def nodeMakesCard : Claim7 := { stood := { row := nodeMakesRow, standIns := [], harness := (true, "9444cb7b1b3b1f19789138ee7e2bea533bf6e05d7237fee8cd4865e1d78b45e4"), looks := false }, kinds := [], alts := [], laidByText := true, laidKinds := [.data, .data, .data, .data, .pinned, .pinned], laidTests := true, laidLooks := .later }
def NodeMakesCardSaid : Prop := Claim7.holds Tryz.pinned (.plain (OpenSpec.ofChange nodeMakesSpec)) nodeMakesCard

/-- THE TIED CARD OF 'coldpluglaw22.NodeNames'. -/
def nodeNamesCard : Claim7 := { stood := { row := nodeNamesRow, standIns := [], harness := (true, "9444cb7b1b3b1f19789138ee7e2bea533bf6e05d7237fee8cd4865e1d78b45e4"), looks := false }, kinds := [], alts := [], laidByText := true, laidKinds := [.data, .data, .data, .data, .pinned, .pinned], laidTests := true, laidLooks := .later }
def NodeNamesCardSaid : Prop := Claim7.holds Tryz.pinned (.plain (OpenSpec.ofChange nodeNamesSpec)) nodeNamesCard

/-- THE TIED CARD OF 'coldpluglaw22.NodeLinks'. -/
def nodeLinksCard : Claim7 := { stood := { row := nodeLinksRow, standIns := [], harness := (true, "9444cb7b1b3b1f19789138ee7e2bea533bf6e05d7237fee8cd4865e1d78b45e4"), looks := false }, kinds := [], alts := [], laidByText := true, laidKinds := [.data, .data, .data, .data, .pinned, .pinned], laidTests := true, laidLooks := .later }
def NodeLinksCardSaid : Prop := Claim7.holds Tryz.pinned (.plain (OpenSpec.ofChange nodeLinksSpec)) nodeLinksCard

/-- THE TIED CARD OF 'coldpluglaw22.NodeOwners'. -/
def nodeOwnersCard : Claim7 := { stood := { row := nodeOwnersRow, standIns := [], harness := (true, "9444cb7b1b3b1f19789138ee7e2bea533bf6e05d7237fee8cd4865e1d78b45e4"), looks := false }, kinds := [], alts := [], laidByText := true, laidKinds := [.data, .data, .data, .data, .pinned, .pinned], laidTests := true, laidLooks := .later }
def NodeOwnersCardSaid : Prop := Claim7.holds Tryz.pinned (.plain (OpenSpec.ofChange nodeOwnersSpec)) nodeOwnersCard

/-- THE TIED CARD OF 'coldpluglaw22.NodeTurns'. -/
def nodeTurnsCard : Claim7 := { stood := { row := nodeTurnsRow, standIns := [], harness := (true, "9444cb7b1b3b1f19789138ee7e2bea533bf6e05d7237fee8cd4865e1d78b45e4"), looks := false }, kinds := [], alts := [], laidByText := true, laidKinds := [.data, .data, .data, .data, .pinned, .pinned], laidTests := true, laidLooks := .later }
def NodeTurnsCardSaid : Prop := Claim7.holds Tryz.pinned (.plain (OpenSpec.ofChange nodeTurnsSpec)) nodeTurnsCard

/-- THE TIED CARD OF 'coldpluglaw22.NodeOnce'. -/
def nodeOnceCard : Claim7 := { stood := { row := nodeOnceRow, standIns := [], harness := (true, "9444cb7b1b3b1f19789138ee7e2bea533bf6e05d7237fee8cd4865e1d78b45e4"), looks := false }, kinds := [], alts := [], laidByText := true, laidKinds := [.data, .data, .data, .data, .pinned, .pinned], laidTests := true, laidLooks := .later }
def NodeOnceCardSaid : Prop := Claim7.holds Tryz.pinned (.plain (OpenSpec.ofChange nodeOnceSpec)) nodeOnceCard

/-- THE TIED CARD OF 'coldpluglaw22.NodeTable'. -/
def nodeTableCard : Claim7 := { stood := { row := nodeTableRow, standIns := [], harness := (true, "9444cb7b1b3b1f19789138ee7e2bea533bf6e05d7237fee8cd4865e1d78b45e4"), looks := false }, kinds := [], alts := [], laidByText := true, laidKinds := [.data, .data, .data, .data, .pinned, .pinned], laidTests := true, laidLooks := .later }
def NodeTableCardSaid : Prop := Claim7.holds Tryz.pinned (.plain (OpenSpec.ofChange nodeTableSpec)) nodeTableCard

/-- THE SECOND FORM's CARD OF 'coldpluglaw22.NodeMakes'. -/
def nodeMakesUptoCard : Claim7 := { stood := { row := nodeMakesUptoRow, standIns := [], harness := (true, "9444cb7b1b3b1f19789138ee7e2bea533bf6e05d7237fee8cd4865e1d78b45e4"), looks := false }, kinds := [], alts := [], laidByText := true, laidKinds := [.data, .data, .data, .data, .pinned, .pinned], laidTests := true, laidLooks := .later }
def NodeMakesUptoCardSaid : Prop := Claim7.holds Tryz.pinned (.plain (OpenSpec.upto nodeMakesSpec)) nodeMakesUptoCard

/-- THE SECOND FORM's CARD OF 'coldpluglaw22.NodeNames'. -/
def nodeNamesUptoCard : Claim7 := { stood := { row := nodeNamesUptoRow, standIns := [], harness := (true, "9444cb7b1b3b1f19789138ee7e2bea533bf6e05d7237fee8cd4865e1d78b45e4"), looks := false }, kinds := [], alts := [], laidByText := true, laidKinds := [.data, .data, .data, .data, .pinned, .pinned], laidTests := true, laidLooks := .later }
def NodeNamesUptoCardSaid : Prop := Claim7.holds Tryz.pinned (.plain (OpenSpec.upto nodeNamesSpec)) nodeNamesUptoCard

/-- THE SECOND FORM's CARD OF 'coldpluglaw22.NodeLinks'. -/
def nodeLinksUptoCard : Claim7 := { stood := { row := nodeLinksUptoRow, standIns := [], harness := (true, "9444cb7b1b3b1f19789138ee7e2bea533bf6e05d7237fee8cd4865e1d78b45e4"), looks := false }, kinds := [], alts := [], laidByText := true, laidKinds := [.data, .data, .data, .data, .pinned, .pinned], laidTests := true, laidLooks := .later }
def NodeLinksUptoCardSaid : Prop := Claim7.holds Tryz.pinned (.plain (OpenSpec.upto nodeLinksSpec)) nodeLinksUptoCard

/-- THE SECOND FORM's CARD OF 'coldpluglaw22.NodeOwners'. -/
def nodeOwnersUptoCard : Claim7 := { stood := { row := nodeOwnersUptoRow, standIns := [], harness := (true, "9444cb7b1b3b1f19789138ee7e2bea533bf6e05d7237fee8cd4865e1d78b45e4"), looks := false }, kinds := [], alts := [], laidByText := true, laidKinds := [.data, .data, .data, .data, .pinned, .pinned], laidTests := true, laidLooks := .later }
def NodeOwnersUptoCardSaid : Prop := Claim7.holds Tryz.pinned (.plain (OpenSpec.upto nodeOwnersSpec)) nodeOwnersUptoCard

/-- THE SECOND FORM's CARD OF 'coldpluglaw22.NodeTurns'. -/
def nodeTurnsUptoCard : Claim7 := { stood := { row := nodeTurnsUptoRow, standIns := [], harness := (true, "9444cb7b1b3b1f19789138ee7e2bea533bf6e05d7237fee8cd4865e1d78b45e4"), looks := false }, kinds := [], alts := [], laidByText := true, laidKinds := [.data, .data, .data, .data, .pinned, .pinned], laidTests := true, laidLooks := .later }
def NodeTurnsUptoCardSaid : Prop := Claim7.holds Tryz.pinned (.plain (OpenSpec.upto nodeTurnsSpec)) nodeTurnsUptoCard

/-- THE SECOND FORM's CARD OF 'coldpluglaw22.NodeOnce'. -/
def nodeOnceUptoCard : Claim7 := { stood := { row := nodeOnceUptoRow, standIns := [], harness := (true, "9444cb7b1b3b1f19789138ee7e2bea533bf6e05d7237fee8cd4865e1d78b45e4"), looks := false }, kinds := [], alts := [], laidByText := true, laidKinds := [.data, .data, .data, .data, .pinned, .pinned], laidTests := true, laidLooks := .later }
def NodeOnceUptoCardSaid : Prop := Claim7.holds Tryz.pinned (.plain (OpenSpec.upto nodeOnceSpec)) nodeOnceUptoCard

/-- THE SECOND FORM's CARD OF 'coldpluglaw22.NodeTable'. -/
def nodeTableUptoCard : Claim7 := { stood := { row := nodeTableUptoRow, standIns := [], harness := (true, "9444cb7b1b3b1f19789138ee7e2bea533bf6e05d7237fee8cd4865e1d78b45e4"), looks := false }, kinds := [], alts := [], laidByText := true, laidKinds := [.data, .data, .data, .data, .pinned, .pinned], laidTests := true, laidLooks := .later }
def NodeTableUptoCardSaid : Prop := Claim7.holds Tryz.pinned (.plain (OpenSpec.upto nodeTableSpec)) nodeTableUptoCard
end Rows
end Go.Proofs.YtnibflopkjghcaaGreatDoor
