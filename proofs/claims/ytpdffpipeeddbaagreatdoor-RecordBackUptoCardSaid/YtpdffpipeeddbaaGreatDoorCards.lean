/-
  DERIVED. GIVEN WITH THE SEED: THE CARDS: each row of YtpdffpipeeddbaaGreatDoorRows.lean that lists a variable, with what it lists TIED to the program's text (the seventh form; the later family's looks); each row that meets fmt, with fmt's text TOLD by the authors' own Lean function (tested against real Go, not proved from fmt's source: count such statements apart). THE CARD IS WHAT COUNTS. Prove the row's statement (the work); the ties are given (YtpdffpipeeddbaaGreatDoorTie.lean); close each card by the builder's one call (the guide's Derived/Test/ToyasCard.lean, 'card_holds'). Laid BY PROGRAM, IN A SANDBOX (cutbox-door.mjs). By AI agents, Wed Nov 11 2026. No macro, syntax, notation, axiom, sorry.
-/
import Derived.Test.YtpdffpipeeddbaaGreatDoorRows
import GoSem.ClaimSeven
namespace Go.Proofs.YtpdffpipeeddbaaGreatDoor
namespace Rows

/-- THE TIED CARD OF 'coldpluglaw25.RecordBack'. -/
def recordBackCard : Claim7 := { stood := { row := recordBackRow, standIns := [], harness := (true, "11a2677433d9ba869d8c60e9df694e0ad1bc62e36fa51edaf334a0360dfebb40"), looks := true }, kinds := [], alts := [], laidByText := true, laidKinds := [.data, .data, .data, .data, .sentinel, .sentinel, .pinned, .pinned], laidTests := true, laidLooks := .later }
def RecordBackCardSaid : Prop := Claim7.holds Tryz.pinned (.plain (OpenSpec.ofChange recordBackSpec)) recordBackCard

/-- THE TIED CARD OF 'coldpluglaw25.RecordOne'. -/
def recordOneCard : Claim7 := { stood := { row := recordOneRow, standIns := [], harness := (true, "11a2677433d9ba869d8c60e9df694e0ad1bc62e36fa51edaf334a0360dfebb40"), looks := true }, kinds := [], alts := [], laidByText := true, laidKinds := [.data, .data, .data, .data, .sentinel, .sentinel, .pinned, .pinned], laidTests := true, laidLooks := .later }
def RecordOneCardSaid : Prop := Claim7.holds Tryz.pinned (.plain (OpenSpec.ofChange recordOneSpec)) recordOneCard

/-- THE TIED CARD OF 'coldpluglaw25.RecordSecond'. -/
def recordSecondCard : Claim7 := { stood := { row := recordSecondRow, standIns := [], harness := (true, "11a2677433d9ba869d8c60e9df694e0ad1bc62e36fa51edaf334a0360dfebb40"), looks := true }, kinds := [], alts := [], laidByText := true, laidKinds := [.data, .data, .data, .data, .sentinel, .sentinel, .pinned, .pinned], laidTests := true, laidLooks := .later }
def RecordSecondCardSaid : Prop := Claim7.holds Tryz.pinned (.plain (OpenSpec.ofChange recordSecondSpec)) recordSecondCard

/-- THE TIED CARD OF 'coldpluglaw25.RecordChecks'. -/
def recordChecksCard : Claim7 := { stood := { row := recordChecksRow, standIns := [], harness := (true, "11a2677433d9ba869d8c60e9df694e0ad1bc62e36fa51edaf334a0360dfebb40"), looks := true }, kinds := [], alts := [], laidByText := true, laidKinds := [.data, .data, .data, .data, .sentinel, .sentinel, .pinned, .pinned], laidTests := true, laidLooks := .later }
def RecordChecksCardSaid : Prop := Claim7.holds Tryz.pinned (.plain (OpenSpec.ofChange recordChecksSpec)) recordChecksCard

/-- THE TIED CARD OF 'coldpluglaw25.RecordBeginnings'. -/
def recordBeginningsCard : Claim7 := { stood := { row := recordBeginningsRow, standIns := [], harness := (true, "11a2677433d9ba869d8c60e9df694e0ad1bc62e36fa51edaf334a0360dfebb40"), looks := true }, kinds := [], alts := [], laidByText := true, laidKinds := [.data, .data, .data, .data, .sentinel, .sentinel, .pinned, .pinned], laidTests := true, laidLooks := .later }
def RecordBeginningsCardSaid : Prop := Claim7.holds Tryz.pinned (.plain (OpenSpec.ofChange recordBeginningsSpec)) recordBeginningsCard

/-- THE TIED CARD OF 'coldpluglaw25.RecordGets'. -/
def recordGetsCard : Claim7 := { stood := { row := recordGetsRow, standIns := [], harness := (true, "11a2677433d9ba869d8c60e9df694e0ad1bc62e36fa51edaf334a0360dfebb40"), looks := true }, kinds := [], alts := [], laidByText := true, laidKinds := [.data, .data, .data, .data, .sentinel, .sentinel, .pinned, .pinned], laidTests := true, laidLooks := .later }
def RecordGetsCardSaid : Prop := Claim7.holds Tryz.pinned (.plain (OpenSpec.ofChange recordGetsSpec)) recordGetsCard

/-- THE TIED CARD OF 'coldpluglaw25.RecordDecodes'. -/
def recordDecodesCard : Claim7 := { stood := { row := recordDecodesRow, standIns := [], harness := (true, "11a2677433d9ba869d8c60e9df694e0ad1bc62e36fa51edaf334a0360dfebb40"), looks := true }, kinds := [], alts := [], laidByText := true, laidKinds := [.data, .data, .data, .data, .sentinel, .sentinel, .pinned, .pinned], laidTests := true, laidLooks := .later }
def RecordDecodesCardSaid : Prop := Claim7.holds Tryz.pinned (.plain (OpenSpec.ofChange recordDecodesSpec)) recordDecodesCard

/-- THE TIED CARD OF 'coldpluglaw25.RecordEntries'. -/
def recordEntriesCard : Claim7 := { stood := { row := recordEntriesRow, standIns := [], harness := (true, "11a2677433d9ba869d8c60e9df694e0ad1bc62e36fa51edaf334a0360dfebb40"), looks := true }, kinds := [], alts := [], laidByText := true, laidKinds := [.data, .data, .data, .data, .sentinel, .sentinel, .pinned, .pinned], laidTests := true, laidLooks := .later }
def RecordEntriesCardSaid : Prop := Claim7.holds Tryz.pinned (.plain (OpenSpec.ofChange recordEntriesSpec)) recordEntriesCard

/-- THE TIED CARD OF 'coldpluglaw25.RecordNames'. -/
def recordNamesCard : Claim7 := { stood := { row := recordNamesRow, standIns := [], harness := (true, "11a2677433d9ba869d8c60e9df694e0ad1bc62e36fa51edaf334a0360dfebb40"), looks := true }, kinds := [], alts := [], laidByText := true, laidKinds := [.data, .data, .data, .data, .sentinel, .sentinel, .pinned, .pinned], laidTests := true, laidLooks := .later }
def RecordNamesCardSaid : Prop := Claim7.holds Tryz.pinned (.plain (OpenSpec.ofChange recordNamesSpec)) recordNamesCard

/-- THE SECOND FORM's CARD OF 'coldpluglaw25.RecordBack'. -/
def recordBackUptoCard : Claim7 := { stood := { row := recordBackUptoRow, standIns := [], harness := (true, "11a2677433d9ba869d8c60e9df694e0ad1bc62e36fa51edaf334a0360dfebb40"), looks := true }, kinds := [], alts := [], laidByText := true, laidKinds := [.data, .data, .data, .data, .sentinel, .sentinel, .pinned, .pinned], laidTests := true, laidLooks := .later }
def RecordBackUptoCardSaid : Prop := Claim7.holds Tryz.pinned (.plain (OpenSpec.upto recordBackSpec)) recordBackUptoCard

/-- THE SECOND FORM's CARD OF 'coldpluglaw25.RecordOne'. -/
def recordOneUptoCard : Claim7 := { stood := { row := recordOneUptoRow, standIns := [], harness := (true, "11a2677433d9ba869d8c60e9df694e0ad1bc62e36fa51edaf334a0360dfebb40"), looks := true }, kinds := [], alts := [], laidByText := true, laidKinds := [.data, .data, .data, .data, .sentinel, .sentinel, .pinned, .pinned], laidTests := true, laidLooks := .later }
def RecordOneUptoCardSaid : Prop := Claim7.holds Tryz.pinned (.plain (OpenSpec.upto recordOneSpec)) recordOneUptoCard

/-- THE SECOND FORM's CARD OF 'coldpluglaw25.RecordSecond'. -/
def recordSecondUptoCard : Claim7 := { stood := { row := recordSecondUptoRow, standIns := [], harness := (true, "11a2677433d9ba869d8c60e9df694e0ad1bc62e36fa51edaf334a0360dfebb40"), looks := true }, kinds := [], alts := [], laidByText := true, laidKinds := [.data, .data, .data, .data, .sentinel, .sentinel, .pinned, .pinned], laidTests := true, laidLooks := .later }
def RecordSecondUptoCardSaid : Prop := Claim7.holds Tryz.pinned (.plain (OpenSpec.upto recordSecondSpec)) recordSecondUptoCard

/-- THE SECOND FORM's CARD OF 'coldpluglaw25.RecordChecks'. -/
def recordChecksUptoCard : Claim7 := { stood := { row := recordChecksUptoRow, standIns := [], harness := (true, "11a2677433d9ba869d8c60e9df694e0ad1bc62e36fa51edaf334a0360dfebb40"), looks := true }, kinds := [], alts := [], laidByText := true, laidKinds := [.data, .data, .data, .data, .sentinel, .sentinel, .pinned, .pinned], laidTests := true, laidLooks := .later }
def RecordChecksUptoCardSaid : Prop := Claim7.holds Tryz.pinned (.plain (OpenSpec.upto recordChecksSpec)) recordChecksUptoCard

/-- THE SECOND FORM's CARD OF 'coldpluglaw25.RecordBeginnings'. -/
def recordBeginningsUptoCard : Claim7 := { stood := { row := recordBeginningsUptoRow, standIns := [], harness := (true, "11a2677433d9ba869d8c60e9df694e0ad1bc62e36fa51edaf334a0360dfebb40"), looks := true }, kinds := [], alts := [], laidByText := true, laidKinds := [.data, .data, .data, .data, .sentinel, .sentinel, .pinned, .pinned], laidTests := true, laidLooks := .later }
def RecordBeginningsUptoCardSaid : Prop := Claim7.holds Tryz.pinned (.plain (OpenSpec.upto recordBeginningsSpec)) recordBeginningsUptoCard

/-- THE SECOND FORM's CARD OF 'coldpluglaw25.RecordGets'. -/
def recordGetsUptoCard : Claim7 := { stood := { row := recordGetsUptoRow, standIns := [], harness := (true, "11a2677433d9ba869d8c60e9df694e0ad1bc62e36fa51edaf334a0360dfebb40"), looks := true }, kinds := [], alts := [], laidByText := true, laidKinds := [.data, .data, .data, .data, .sentinel, .sentinel, .pinned, .pinned], laidTests := true, laidLooks := .later }
def RecordGetsUptoCardSaid : Prop := Claim7.holds Tryz.pinned (.plain (OpenSpec.upto recordGetsSpec)) recordGetsUptoCard

/-- THE SECOND FORM's CARD OF 'coldpluglaw25.RecordDecodes'. -/
def recordDecodesUptoCard : Claim7 := { stood := { row := recordDecodesUptoRow, standIns := [], harness := (true, "11a2677433d9ba869d8c60e9df694e0ad1bc62e36fa51edaf334a0360dfebb40"), looks := true }, kinds := [], alts := [], laidByText := true, laidKinds := [.data, .data, .data, .data, .sentinel, .sentinel, .pinned, .pinned], laidTests := true, laidLooks := .later }
def RecordDecodesUptoCardSaid : Prop := Claim7.holds Tryz.pinned (.plain (OpenSpec.upto recordDecodesSpec)) recordDecodesUptoCard

/-- THE SECOND FORM's CARD OF 'coldpluglaw25.RecordEntries'. -/
def recordEntriesUptoCard : Claim7 := { stood := { row := recordEntriesUptoRow, standIns := [], harness := (true, "11a2677433d9ba869d8c60e9df694e0ad1bc62e36fa51edaf334a0360dfebb40"), looks := true }, kinds := [], alts := [], laidByText := true, laidKinds := [.data, .data, .data, .data, .sentinel, .sentinel, .pinned, .pinned], laidTests := true, laidLooks := .later }
def RecordEntriesUptoCardSaid : Prop := Claim7.holds Tryz.pinned (.plain (OpenSpec.upto recordEntriesSpec)) recordEntriesUptoCard

/-- THE SECOND FORM's CARD OF 'coldpluglaw25.RecordNames'. -/
def recordNamesUptoCard : Claim7 := { stood := { row := recordNamesUptoRow, standIns := [], harness := (true, "11a2677433d9ba869d8c60e9df694e0ad1bc62e36fa51edaf334a0360dfebb40"), looks := true }, kinds := [], alts := [], laidByText := true, laidKinds := [.data, .data, .data, .data, .sentinel, .sentinel, .pinned, .pinned], laidTests := true, laidLooks := .later }
def RecordNamesUptoCardSaid : Prop := Claim7.holds Tryz.pinned (.plain (OpenSpec.upto recordNamesSpec)) recordNamesUptoCard
end Rows
end Go.Proofs.YtpdffpipeeddbaaGreatDoor
