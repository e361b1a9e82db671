/-
  DERIVED. GIVEN WITH THE SEED: THE CARDS: each row of YtpknaffdaemlbaaGreatDoorRows.lean that lists a variable, with what it lists TIED to the program's text (the seventh form; the later family's looks); each row that meets fmt, with fmt's text TOLD by the authors' own Lean function (tested against real Go, not proved from fmt's source: count such statements apart). THE CARD IS WHAT COUNTS. Prove the row's statement (the work); the ties are given (YtpknaffdaemlbaaGreatDoorTie.lean); close each card by the builder's one call (the guide's Derived/Test/ToyasCard.lean, 'card_holds'). Laid BY PROGRAM, IN A SANDBOX (cutbox-door.mjs). By AI agents, Wed Nov 11 2026. No macro, syntax, notation, axiom, sorry.
-/
import Derived.Test.YtpknaffdaemlbaaGreatDoorRows
import GoSem.ClaimSeven
namespace Go.Proofs.YtpknaffdaemlbaaGreatDoor
namespace Rows

/-- THE TIED CARD OF 'coldpluglaw26.DatabaseKeeps'. -/
def databaseKeepsCard : Claim7 := { stood := { row := databaseKeepsRow, standIns := [], harness := (true, "ca64367a9ad1b7e7ffc514ed4dc6377587492bb7341d374f1299115ea9730a96"), looks := true }, kinds := [], alts := [], laidByText := true, laidKinds := [.data, .data, .data, .data, .sentinel, .sentinel, .pinned, .pinned], laidTests := true, laidLooks := .later }
def DatabaseKeepsCardSaid : Prop := Claim7.holds Tryz.pinned (.plain (OpenSpec.ofChange databaseKeepsSpec)) databaseKeepsCard

/-- THE TIED CARD OF 'coldpluglaw26.DatabaseApart'. -/
def databaseApartCard : Claim7 := { stood := { row := databaseApartRow, standIns := [], harness := (true, "ca64367a9ad1b7e7ffc514ed4dc6377587492bb7341d374f1299115ea9730a96"), looks := true }, kinds := [], alts := [], laidByText := true, laidKinds := [.data, .data, .data, .data, .sentinel, .sentinel, .pinned, .pinned], laidTests := true, laidLooks := .later }
def DatabaseApartCardSaid : Prop := Claim7.holds Tryz.pinned (.plain (OpenSpec.ofChange databaseApartSpec)) databaseApartCard

/-- THE TIED CARD OF 'coldpluglaw26.DatabaseFull'. -/
def databaseFullCard : Claim7 := { stood := { row := databaseFullRow, standIns := [], harness := (true, "ca64367a9ad1b7e7ffc514ed4dc6377587492bb7341d374f1299115ea9730a96"), looks := true }, kinds := [], alts := [], laidByText := true, laidKinds := [.data, .data, .data, .data, .sentinel, .sentinel, .pinned, .pinned], laidTests := true, laidLooks := .later }
def DatabaseFullCardSaid : Prop := Claim7.holds Tryz.pinned (.plain (OpenSpec.ofChange databaseFullSpec)) databaseFullCard

/-- THE TIED CARD OF 'coldpluglaw26.DatabaseReads'. -/
def databaseReadsCard : Claim7 := { stood := { row := databaseReadsRow, standIns := [], harness := (true, "ca64367a9ad1b7e7ffc514ed4dc6377587492bb7341d374f1299115ea9730a96"), looks := true }, kinds := [], alts := [], laidByText := true, laidKinds := [.data, .data, .data, .data, .sentinel, .sentinel, .pinned, .pinned], laidTests := true, laidLooks := .later }
def DatabaseReadsCardSaid : Prop := Claim7.holds Tryz.pinned (.plain (OpenSpec.ofChange databaseReadsSpec)) databaseReadsCard

/-- THE TIED CARD OF 'coldpluglaw26.DatabaseEntries'. -/
def databaseEntriesCard : Claim7 := { stood := { row := databaseEntriesRow, standIns := [], harness := (true, "ca64367a9ad1b7e7ffc514ed4dc6377587492bb7341d374f1299115ea9730a96"), looks := true }, kinds := [], alts := [], laidByText := true, laidKinds := [.data, .data, .data, .data, .sentinel, .sentinel, .pinned, .pinned], laidTests := true, laidLooks := .later }
def DatabaseEntriesCardSaid : Prop := Claim7.holds Tryz.pinned (.plain (OpenSpec.ofChange databaseEntriesSpec)) databaseEntriesCard

/-- THE TIED CARD OF 'coldpluglaw26.DatabaseCrashes'. -/
def databaseCrashesCard : Claim7 := { stood := { row := databaseCrashesRow, standIns := [], harness := (true, "ca64367a9ad1b7e7ffc514ed4dc6377587492bb7341d374f1299115ea9730a96"), looks := true }, kinds := [], alts := [], laidByText := true, laidKinds := [.data, .data, .data, .data, .sentinel, .sentinel, .pinned, .pinned], laidTests := true, laidLooks := .later }
def DatabaseCrashesCardSaid : Prop := Claim7.holds Tryz.pinned (.plain (OpenSpec.ofChange databaseCrashesSpec)) databaseCrashesCard

/-- THE TIED CARD OF 'coldpluglaw26.DatabaseDamage'. -/
def databaseDamageCard : Claim7 := { stood := { row := databaseDamageRow, standIns := [], harness := (true, "ca64367a9ad1b7e7ffc514ed4dc6377587492bb7341d374f1299115ea9730a96"), looks := true }, kinds := [], alts := [], laidByText := true, laidKinds := [.data, .data, .data, .data, .sentinel, .sentinel, .pinned, .pinned], laidTests := true, laidLooks := .later }
def DatabaseDamageCardSaid : Prop := Claim7.holds Tryz.pinned (.plain (OpenSpec.ofChange databaseDamageSpec)) databaseDamageCard

/-- THE TIED CARD OF 'coldpluglaw26.DatabasePlays'. -/
def databasePlaysCard : Claim7 := { stood := { row := databasePlaysRow, standIns := [], harness := (true, "ca64367a9ad1b7e7ffc514ed4dc6377587492bb7341d374f1299115ea9730a96"), looks := true }, kinds := [], alts := [], laidByText := true, laidKinds := [.data, .data, .data, .data, .sentinel, .sentinel, .pinned, .pinned], laidTests := true, laidLooks := .later }
def DatabasePlaysCardSaid : Prop := Claim7.holds Tryz.pinned (.plain (OpenSpec.ofChange databasePlaysSpec)) databasePlaysCard

/-- THE TIED CARD OF 'coldpluglaw26.DatabaseCopies'. -/
def databaseCopiesCard : Claim7 := { stood := { row := databaseCopiesRow, standIns := [], harness := (true, "ca64367a9ad1b7e7ffc514ed4dc6377587492bb7341d374f1299115ea9730a96"), looks := true }, kinds := [], alts := [], laidByText := true, laidKinds := [.data, .data, .data, .data, .sentinel, .sentinel, .pinned, .pinned], laidTests := true, laidLooks := .later }
def DatabaseCopiesCardSaid : Prop := Claim7.holds Tryz.pinned (.plain (OpenSpec.ofChange databaseCopiesSpec)) databaseCopiesCard

/-- THE SECOND FORM's CARD OF 'coldpluglaw26.DatabaseKeeps'. -/
def databaseKeepsUptoCard : Claim7 := { stood := { row := databaseKeepsUptoRow, standIns := [], harness := (true, "ca64367a9ad1b7e7ffc514ed4dc6377587492bb7341d374f1299115ea9730a96"), looks := true }, kinds := [], alts := [], laidByText := true, laidKinds := [.data, .data, .data, .data, .sentinel, .sentinel, .pinned, .pinned], laidTests := true, laidLooks := .later }
def DatabaseKeepsUptoCardSaid : Prop := Claim7.holds Tryz.pinned (.plain (OpenSpec.upto databaseKeepsSpec)) databaseKeepsUptoCard

/-- THE SECOND FORM's CARD OF 'coldpluglaw26.DatabaseApart'. -/
def databaseApartUptoCard : Claim7 := { stood := { row := databaseApartUptoRow, standIns := [], harness := (true, "ca64367a9ad1b7e7ffc514ed4dc6377587492bb7341d374f1299115ea9730a96"), looks := true }, kinds := [], alts := [], laidByText := true, laidKinds := [.data, .data, .data, .data, .sentinel, .sentinel, .pinned, .pinned], laidTests := true, laidLooks := .later }
def DatabaseApartUptoCardSaid : Prop := Claim7.holds Tryz.pinned (.plain (OpenSpec.upto databaseApartSpec)) databaseApartUptoCard

/-- THE SECOND FORM's CARD OF 'coldpluglaw26.DatabaseFull'. -/
def databaseFullUptoCard : Claim7 := { stood := { row := databaseFullUptoRow, standIns := [], harness := (true, "ca64367a9ad1b7e7ffc514ed4dc6377587492bb7341d374f1299115ea9730a96"), looks := true }, kinds := [], alts := [], laidByText := true, laidKinds := [.data, .data, .data, .data, .sentinel, .sentinel, .pinned, .pinned], laidTests := true, laidLooks := .later }
def DatabaseFullUptoCardSaid : Prop := Claim7.holds Tryz.pinned (.plain (OpenSpec.upto databaseFullSpec)) databaseFullUptoCard

/-- THE SECOND FORM's CARD OF 'coldpluglaw26.DatabaseReads'. -/
def databaseReadsUptoCard : Claim7 := { stood := { row := databaseReadsUptoRow, standIns := [], harness := (true, "ca64367a9ad1b7e7ffc514ed4dc6377587492bb7341d374f1299115ea9730a96"), looks := true }, kinds := [], alts := [], laidByText := true, laidKinds := [.data, .data, .data, .data, .sentinel, .sentinel, .pinned, .pinned], laidTests := true, laidLooks := .later }
def DatabaseReadsUptoCardSaid : Prop := Claim7.holds Tryz.pinned (.plain (OpenSpec.upto databaseReadsSpec)) databaseReadsUptoCard

/-- THE SECOND FORM's CARD OF 'coldpluglaw26.DatabaseEntries'. -/
def databaseEntriesUptoCard : Claim7 := { stood := { row := databaseEntriesUptoRow, standIns := [], harness := (true, "ca64367a9ad1b7e7ffc514ed4dc6377587492bb7341d374f1299115ea9730a96"), looks := true }, kinds := [], alts := [], laidByText := true, laidKinds := [.data, .data, .data, .data, .sentinel, .sentinel, .pinned, .pinned], laidTests := true, laidLooks := .later }
def DatabaseEntriesUptoCardSaid : Prop := Claim7.holds Tryz.pinned (.plain (OpenSpec.upto databaseEntriesSpec)) databaseEntriesUptoCard

/-- THE SECOND FORM's CARD OF 'coldpluglaw26.DatabaseCrashes'. -/
def databaseCrashesUptoCard : Claim7 := { stood := { row := databaseCrashesUptoRow, standIns := [], harness := (true, "ca64367a9ad1b7e7ffc514ed4dc6377587492bb7341d374f1299115ea9730a96"), looks := true }, kinds := [], alts := [], laidByText := true, laidKinds := [.data, .data, .data, .data, .sentinel, .sentinel, .pinned, .pinned], laidTests := true, laidLooks := .later }
def DatabaseCrashesUptoCardSaid : Prop := Claim7.holds Tryz.pinned (.plain (OpenSpec.upto databaseCrashesSpec)) databaseCrashesUptoCard

/-- THE SECOND FORM's CARD OF 'coldpluglaw26.DatabaseDamage'. -/
def databaseDamageUptoCard : Claim7 := { stood := { row := databaseDamageUptoRow, standIns := [], harness := (true, "ca64367a9ad1b7e7ffc514ed4dc6377587492bb7341d374f1299115ea9730a96"), looks := true }, kinds := [], alts := [], laidByText := true, laidKinds := [.data, .data, .data, .data, .sentinel, .sentinel, .pinned, .pinned], laidTests := true, laidLooks := .later }
def DatabaseDamageUptoCardSaid : Prop := Claim7.holds Tryz.pinned (.plain (OpenSpec.upto databaseDamageSpec)) databaseDamageUptoCard

/-- THE SECOND FORM's CARD OF 'coldpluglaw26.DatabasePlays'. -/
def databasePlaysUptoCard : Claim7 := { stood := { row := databasePlaysUptoRow, standIns := [], harness := (true, "ca64367a9ad1b7e7ffc514ed4dc6377587492bb7341d374f1299115ea9730a96"), looks := true }, kinds := [], alts := [], laidByText := true, laidKinds := [.data, .data, .data, .data, .sentinel, .sentinel, .pinned, .pinned], laidTests := true, laidLooks := .later }
def DatabasePlaysUptoCardSaid : Prop := Claim7.holds Tryz.pinned (.plain (OpenSpec.upto databasePlaysSpec)) databasePlaysUptoCard

/-- THE SECOND FORM's CARD OF 'coldpluglaw26.DatabaseCopies'. -/
def databaseCopiesUptoCard : Claim7 := { stood := { row := databaseCopiesUptoRow, standIns := [], harness := (true, "ca64367a9ad1b7e7ffc514ed4dc6377587492bb7341d374f1299115ea9730a96"), looks := true }, kinds := [], alts := [], laidByText := true, laidKinds := [.data, .data, .data, .data, .sentinel, .sentinel, .pinned, .pinned], laidTests := true, laidLooks := .later }
def DatabaseCopiesUptoCardSaid : Prop := Claim7.holds Tryz.pinned (.plain (OpenSpec.upto databaseCopiesSpec)) databaseCopiesUptoCard
end Rows
end Go.Proofs.YtpknaffdaemlbaaGreatDoor
