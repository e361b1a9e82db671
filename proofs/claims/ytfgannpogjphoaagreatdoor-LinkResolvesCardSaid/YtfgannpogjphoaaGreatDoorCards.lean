/-
  DERIVED. GIVEN WITH THE SEED: THE CARDS: each row of YtfgannpogjphoaaGreatDoorRows.lean that lists a variable, with what it lists TIED to the program's text (the seventh form; the later family's looks); each row that meets fmt, with fmt's text TOLD by the authors' own Lean function (tested against real Go, not proved from fmt's source: count such statements apart). THE CARD IS WHAT COUNTS. Prove the row's statement (the work); the ties are given (YtfgannpogjphoaaGreatDoorTie.lean); close each card by the builder's one call (the guide's Derived/Test/ToyasCard.lean, 'card_holds'). Laid BY PROGRAM, IN A SANDBOX (cutbox-door.mjs). By AI agents, Wed Nov 11 2026. No macro, syntax, notation, axiom, sorry.
-/
import Derived.Test.YtfgannpogjphoaaGreatDoorRows
import GoSem.ClaimSeven
namespace Go.Proofs.YtfgannpogjphoaaGreatDoor
namespace Rows

/-- THE TIED CARD OF 'coldpluglaw21.LinkOrder'. -/
def linkOrderCard : Claim7 := { stood := { row := linkOrderRow, standIns := [], harness := (true, "248dd730511795cc634da10c63278d577fc561eb968f5e630add2b724b8c12b7"), looks := true }, kinds := [], alts := [], laidByText := true, laidKinds := [.data, .pinned, .pinned], laidTests := true, laidLooks := .later }
def LinkOrderCardSaid : Prop := Claim7.holds Tryz.pinned (.plain (OpenSpec.ofChange linkOrderSpec)) linkOrderCard

/-- THE TIED CARD OF 'coldpluglaw21.LinkBest'. -/
def linkBestCard : Claim7 := { stood := { row := linkBestRow, standIns := [], harness := (true, "248dd730511795cc634da10c63278d577fc561eb968f5e630add2b724b8c12b7"), looks := true }, kinds := [], alts := [], laidByText := true, laidKinds := [.data, .pinned, .pinned], laidTests := true, laidLooks := .later }
def LinkBestCardSaid : Prop := Claim7.holds Tryz.pinned (.plain (OpenSpec.ofChange linkBestSpec)) linkBestCard

/-- THE TIED CARD OF 'coldpluglaw21.LinkApart'. -/
def linkApartCard : Claim7 := { stood := { row := linkApartRow, standIns := [], harness := (true, "248dd730511795cc634da10c63278d577fc561eb968f5e630add2b724b8c12b7"), looks := true }, kinds := [], alts := [], laidByText := true, laidKinds := [.data, .pinned, .pinned], laidTests := true, laidLooks := .later }
def LinkApartCardSaid : Prop := Claim7.holds Tryz.pinned (.plain (OpenSpec.ofChange linkApartSpec)) linkApartCard

/-- THE TIED CARD OF 'coldpluglaw21.LinkResolves'. -/
def linkResolvesCard : Claim7 := { stood := { row := linkResolvesRow, standIns := [], harness := (true, "248dd730511795cc634da10c63278d577fc561eb968f5e630add2b724b8c12b7"), looks := true }, kinds := [], alts := [], laidByText := true, laidKinds := [.data, .pinned, .pinned], laidTests := true, laidLooks := .later }
def LinkResolvesCardSaid : Prop := Claim7.holds Tryz.pinned (.plain (OpenSpec.ofChange linkResolvesSpec)) linkResolvesCard

/-- THE TIED CARD OF 'coldpluglaw21.LinkLive'. -/
def linkLiveCard : Claim7 := { stood := { row := linkLiveRow, standIns := [], harness := (true, "248dd730511795cc634da10c63278d577fc561eb968f5e630add2b724b8c12b7"), looks := true }, kinds := [], alts := [], laidByText := true, laidKinds := [.data, .pinned, .pinned], laidTests := true, laidLooks := .later }
def LinkLiveCardSaid : Prop := Claim7.holds Tryz.pinned (.plain (OpenSpec.ofChange linkLiveSpec)) linkLiveCard

/-- THE TIED CARD OF 'coldpluglaw21.LinkCopies'. -/
def linkCopiesCard : Claim7 := { stood := { row := linkCopiesRow, standIns := [], harness := (true, "248dd730511795cc634da10c63278d577fc561eb968f5e630add2b724b8c12b7"), looks := true }, kinds := [], alts := [], laidByText := true, laidKinds := [.data, .pinned, .pinned], laidTests := true, laidLooks := .later }
def LinkCopiesCardSaid : Prop := Claim7.holds Tryz.pinned (.plain (OpenSpec.ofChange linkCopiesSpec)) linkCopiesCard

/-- THE TIED CARD OF 'coldpluglaw21.LinkPlays'. -/
def linkPlaysCard : Claim7 := { stood := { row := linkPlaysRow, standIns := [], harness := (true, "248dd730511795cc634da10c63278d577fc561eb968f5e630add2b724b8c12b7"), looks := true }, kinds := [], alts := [], laidByText := true, laidKinds := [.data, .pinned, .pinned], laidTests := true, laidLooks := .later }
def LinkPlaysCardSaid : Prop := Claim7.holds Tryz.pinned (.plain (OpenSpec.ofChange linkPlaysSpec)) linkPlaysCard

/-- THE SECOND FORM's CARD OF 'coldpluglaw21.LinkOrder'. -/
def linkOrderUptoCard : Claim7 := { stood := { row := linkOrderUptoRow, standIns := [], harness := (true, "248dd730511795cc634da10c63278d577fc561eb968f5e630add2b724b8c12b7"), looks := true }, kinds := [], alts := [], laidByText := true, laidKinds := [.data, .pinned, .pinned], laidTests := true, laidLooks := .later }
def LinkOrderUptoCardSaid : Prop := Claim7.holds Tryz.pinned (.plain (OpenSpec.upto linkOrderSpec)) linkOrderUptoCard

/-- THE SECOND FORM's CARD OF 'coldpluglaw21.LinkBest'. -/
def linkBestUptoCard : Claim7 := { stood := { row := linkBestUptoRow, standIns := [], harness := (true, "248dd730511795cc634da10c63278d577fc561eb968f5e630add2b724b8c12b7"), looks := true }, kinds := [], alts := [], laidByText := true, laidKinds := [.data, .pinned, .pinned], laidTests := true, laidLooks := .later }
def LinkBestUptoCardSaid : Prop := Claim7.holds Tryz.pinned (.plain (OpenSpec.upto linkBestSpec)) linkBestUptoCard

/-- THE SECOND FORM's CARD OF 'coldpluglaw21.LinkApart'. -/
def linkApartUptoCard : Claim7 := { stood := { row := linkApartUptoRow, standIns := [], harness := (true, "248dd730511795cc634da10c63278d577fc561eb968f5e630add2b724b8c12b7"), looks := true }, kinds := [], alts := [], laidByText := true, laidKinds := [.data, .pinned, .pinned], laidTests := true, laidLooks := .later }
def LinkApartUptoCardSaid : Prop := Claim7.holds Tryz.pinned (.plain (OpenSpec.upto linkApartSpec)) linkApartUptoCard

/-- THE SECOND FORM's CARD OF 'coldpluglaw21.LinkResolves'. -/
def linkResolvesUptoCard : Claim7 := { stood := { row := linkResolvesUptoRow, standIns := [], harness := (true, "248dd730511795cc634da10c63278d577fc561eb968f5e630add2b724b8c12b7"), looks := true }, kinds := [], alts := [], laidByText := true, laidKinds := [.data, .pinned, .pinned], laidTests := true, laidLooks := .later }
def LinkResolvesUptoCardSaid : Prop := Claim7.holds Tryz.pinned (.plain (OpenSpec.upto linkResolvesSpec)) linkResolvesUptoCard

/-- THE SECOND FORM's CARD OF 'coldpluglaw21.LinkLive'. -/
def linkLiveUptoCard : Claim7 := { stood := { row := linkLiveUptoRow, standIns := [], harness := (true, "248dd730511795cc634da10c63278d577fc561eb968f5e630add2b724b8c12b7"), looks := true }, kinds := [], alts := [], laidByText := true, laidKinds := [.data, .pinned, .pinned], laidTests := true, laidLooks := .later }
def LinkLiveUptoCardSaid : Prop := Claim7.holds Tryz.pinned (.plain (OpenSpec.upto linkLiveSpec)) linkLiveUptoCard

/-- THE SECOND FORM's CARD OF 'coldpluglaw21.LinkCopies'. -/
def linkCopiesUptoCard : Claim7 := { stood := { row := linkCopiesUptoRow, standIns := [], harness := (true, "248dd730511795cc634da10c63278d577fc561eb968f5e630add2b724b8c12b7"), looks := true }, kinds := [], alts := [], laidByText := true, laidKinds := [.data, .pinned, .pinned], laidTests := true, laidLooks := .later }
def LinkCopiesUptoCardSaid : Prop := Claim7.holds Tryz.pinned (.plain (OpenSpec.upto linkCopiesSpec)) linkCopiesUptoCard

/-- THE SECOND FORM's CARD OF 'coldpluglaw21.LinkPlays'. -/
def linkPlaysUptoCard : Claim7 := { stood := { row := linkPlaysUptoRow, standIns := [], harness := (true, "248dd730511795cc634da10c63278d577fc561eb968f5e630add2b724b8c12b7"), looks := true }, kinds := [], alts := [], laidByText := true, laidKinds := [.data, .pinned, .pinned], laidTests := true, laidLooks := .later }
def LinkPlaysUptoCardSaid : Prop := Claim7.holds Tryz.pinned (.plain (OpenSpec.upto linkPlaysSpec)) linkPlaysUptoCard
end Rows
end Go.Proofs.YtfgannpogjphoaaGreatDoor
