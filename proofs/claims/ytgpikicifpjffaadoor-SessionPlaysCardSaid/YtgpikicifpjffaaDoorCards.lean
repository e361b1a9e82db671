/-
  DERIVED. GIVEN WITH THE SEED: THE CARDS: each row of YtgpikicifpjffaaDoorRows.lean that lists a variable, with what it lists TIED to the program's text (the seventh form; the later family's looks); each row that meets fmt, with fmt's text TOLD by the authors' own Lean function (tested against real Go, not proved from fmt's source: count such statements apart). THE CARD IS WHAT COUNTS. Prove the row's statement (the work); the ties are given (YtgpikicifpjffaaDoorTie.lean); close each card by the builder's one call (the guide's Derived/Test/ToyasCard.lean, 'card_holds'). Laid BY PROGRAM, IN A SANDBOX (cutbox-door.mjs). By AI agents, Wed Nov 11 2026. No macro, syntax, notation, axiom, sorry.
-/
import Derived.Test.YtgpikicifpjffaaDoorRows
import GoSem.ClaimSeven
namespace Go.Proofs.YtgpikicifpjffaaDoor
namespace Rows

/-- THE TIED CARD OF 'coldpluglaw37.SessionCircle'. -/
def sessionCircleCard : Claim7 := { stood := { row := sessionCircleRow, standIns := [], harness := (true, "001bb153f1e8f048234a9cc64fff34213404d6842f50f704cbdea55cb3144d2b"), looks := false }, kinds := [], alts := [], laidByText := true, laidKinds := [.data, .pinned, .pinned], laidTests := true, laidLooks := .later }
def SessionCircleCardSaid : Prop := Claim7.holds Tryd.pinned (.plain (OpenSpec.ofChange sessionCircleSpec)) sessionCircleCard

/-- THE TIED CARD OF 'coldpluglaw37.SessionPrunes'. -/
def sessionPrunesCard : Claim7 := { stood := { row := sessionPrunesRow, standIns := [], harness := (true, "001bb153f1e8f048234a9cc64fff34213404d6842f50f704cbdea55cb3144d2b"), looks := false }, kinds := [], alts := [], laidByText := true, laidKinds := [.data, .pinned, .pinned], laidTests := true, laidLooks := .later }
def SessionPrunesCardSaid : Prop := Claim7.holds Tryd.pinned (.plain (OpenSpec.ofChange sessionPrunesSpec)) sessionPrunesCard

/-- THE TIED CARD OF 'coldpluglaw37.SessionChecks'. -/
def sessionChecksCard : Claim7 := { stood := { row := sessionChecksRow, standIns := [], harness := (true, "001bb153f1e8f048234a9cc64fff34213404d6842f50f704cbdea55cb3144d2b"), looks := false }, kinds := [], alts := [], laidByText := true, laidKinds := [.data, .pinned, .pinned], laidTests := true, laidLooks := .later }
def SessionChecksCardSaid : Prop := Claim7.holds Tryd.pinned (.plain (OpenSpec.ofChange sessionChecksSpec)) sessionChecksCard

/-- THE TIED CARD OF 'coldpluglaw37.SessionOpens'. -/
def sessionOpensCard : Claim7 := { stood := { row := sessionOpensRow, standIns := [], harness := (true, "001bb153f1e8f048234a9cc64fff34213404d6842f50f704cbdea55cb3144d2b"), looks := false }, kinds := [], alts := [], laidByText := true, laidKinds := [.data, .pinned, .pinned], laidTests := true, laidLooks := .later }
def SessionOpensCardSaid : Prop := Claim7.holds Tryd.pinned (.plain (OpenSpec.ofChange sessionOpensSpec)) sessionOpensCard

/-- THE TIED CARD OF 'coldpluglaw37.SessionValid'. -/
def sessionValidCard : Claim7 := { stood := { row := sessionValidRow, standIns := [], harness := (true, "001bb153f1e8f048234a9cc64fff34213404d6842f50f704cbdea55cb3144d2b"), looks := false }, kinds := [], alts := [], laidByText := true, laidKinds := [.data, .pinned, .pinned], laidTests := true, laidLooks := .later }
def SessionValidCardSaid : Prop := Claim7.holds Tryd.pinned (.plain (OpenSpec.ofChange sessionValidSpec)) sessionValidCard

/-- THE TIED CARD OF 'coldpluglaw37.SessionApart'. -/
def sessionApartCard : Claim7 := { stood := { row := sessionApartRow, standIns := [], harness := (true, "001bb153f1e8f048234a9cc64fff34213404d6842f50f704cbdea55cb3144d2b"), looks := false }, kinds := [], alts := [], laidByText := true, laidKinds := [.data, .pinned, .pinned], laidTests := true, laidLooks := .later }
def SessionApartCardSaid : Prop := Claim7.holds Tryd.pinned (.plain (OpenSpec.ofChange sessionApartSpec)) sessionApartCard

/-- THE TIED CARD OF 'coldpluglaw37.SessionBack'. -/
def sessionBackCard : Claim7 := { stood := { row := sessionBackRow, standIns := [], harness := (true, "001bb153f1e8f048234a9cc64fff34213404d6842f50f704cbdea55cb3144d2b"), looks := false }, kinds := [], alts := [], laidByText := true, laidKinds := [.data, .pinned, .pinned], laidTests := true, laidLooks := .later }
def SessionBackCardSaid : Prop := Claim7.holds Tryd.pinned (.plain (OpenSpec.ofChange sessionBackSpec)) sessionBackCard

/-- THE TIED CARD OF 'coldpluglaw37.SessionPlays'. -/
def sessionPlaysCard : Claim7 := { stood := { row := sessionPlaysRow, standIns := [], harness := (true, "001bb153f1e8f048234a9cc64fff34213404d6842f50f704cbdea55cb3144d2b"), looks := false }, kinds := [], alts := [], laidByText := true, laidKinds := [.data, .pinned, .pinned], laidTests := true, laidLooks := .later }
def SessionPlaysCardSaid : Prop := Claim7.holds Tryd.pinned (.plain (OpenSpec.ofChange sessionPlaysSpec)) sessionPlaysCard

/-- THE SECOND FORM's CARD OF 'coldpluglaw37.SessionCircle'. -/
def sessionCircleUptoCard : Claim7 := { stood := { row := sessionCircleUptoRow, standIns := [], harness := (true, "001bb153f1e8f048234a9cc64fff34213404d6842f50f704cbdea55cb3144d2b"), looks := false }, kinds := [], alts := [], laidByText := true, laidKinds := [.data, .pinned, .pinned], laidTests := true, laidLooks := .later }
def SessionCircleUptoCardSaid : Prop := Claim7.holds Tryd.pinned (.plain (OpenSpec.upto sessionCircleSpec)) sessionCircleUptoCard

/-- THE SECOND FORM's CARD OF 'coldpluglaw37.SessionPrunes'. -/
def sessionPrunesUptoCard : Claim7 := { stood := { row := sessionPrunesUptoRow, standIns := [], harness := (true, "001bb153f1e8f048234a9cc64fff34213404d6842f50f704cbdea55cb3144d2b"), looks := false }, kinds := [], alts := [], laidByText := true, laidKinds := [.data, .pinned, .pinned], laidTests := true, laidLooks := .later }
def SessionPrunesUptoCardSaid : Prop := Claim7.holds Tryd.pinned (.plain (OpenSpec.upto sessionPrunesSpec)) sessionPrunesUptoCard

/-- THE SECOND FORM's CARD OF 'coldpluglaw37.SessionChecks'. -/
def sessionChecksUptoCard : Claim7 := { stood := { row := sessionChecksUptoRow, standIns := [], harness := (true, "001bb153f1e8f048234a9cc64fff34213404d6842f50f704cbdea55cb3144d2b"), looks := false }, kinds := [], alts := [], laidByText := true, laidKinds := [.data, .pinned, .pinned], laidTests := true, laidLooks := .later }
def SessionChecksUptoCardSaid : Prop := Claim7.holds Tryd.pinned (.plain (OpenSpec.upto sessionChecksSpec)) sessionChecksUptoCard

/-- THE SECOND FORM's CARD OF 'coldpluglaw37.SessionOpens'. -/
def sessionOpensUptoCard : Claim7 := { stood := { row := sessionOpensUptoRow, standIns := [], harness := (true, "001bb153f1e8f048234a9cc64fff34213404d6842f50f704cbdea55cb3144d2b"), looks := false }, kinds := [], alts := [], laidByText := true, laidKinds := [.data, .pinned, .pinned], laidTests := true, laidLooks := .later }
def SessionOpensUptoCardSaid : Prop := Claim7.holds Tryd.pinned (.plain (OpenSpec.upto sessionOpensSpec)) sessionOpensUptoCard

/-- THE SECOND FORM's CARD OF 'coldpluglaw37.SessionValid'. -/
def sessionValidUptoCard : Claim7 := { stood := { row := sessionValidUptoRow, standIns := [], harness := (true, "001bb153f1e8f048234a9cc64fff34213404d6842f50f704cbdea55cb3144d2b"), looks := false }, kinds := [], alts := [], laidByText := true, laidKinds := [.data, .pinned, .pinned], laidTests := true, laidLooks := .later }
def SessionValidUptoCardSaid : Prop := Claim7.holds Tryd.pinned (.plain (OpenSpec.upto sessionValidSpec)) sessionValidUptoCard

/-- THE SECOND FORM's CARD OF 'coldpluglaw37.SessionApart'. -/
def sessionApartUptoCard : Claim7 := { stood := { row := sessionApartUptoRow, standIns := [], harness := (true, "001bb153f1e8f048234a9cc64fff34213404d6842f50f704cbdea55cb3144d2b"), looks := false }, kinds := [], alts := [], laidByText := true, laidKinds := [.data, .pinned, .pinned], laidTests := true, laidLooks := .later }
def SessionApartUptoCardSaid : Prop := Claim7.holds Tryd.pinned (.plain (OpenSpec.upto sessionApartSpec)) sessionApartUptoCard

/-- THE SECOND FORM's CARD OF 'coldpluglaw37.SessionBack'. -/
def sessionBackUptoCard : Claim7 := { stood := { row := sessionBackUptoRow, standIns := [], harness := (true, "001bb153f1e8f048234a9cc64fff34213404d6842f50f704cbdea55cb3144d2b"), looks := false }, kinds := [], alts := [], laidByText := true, laidKinds := [.data, .pinned, .pinned], laidTests := true, laidLooks := .later }
def SessionBackUptoCardSaid : Prop := Claim7.holds Tryd.pinned (.plain (OpenSpec.upto sessionBackSpec)) sessionBackUptoCard

/-- THE SECOND FORM's CARD OF 'coldpluglaw37.SessionPlays'. -/
def sessionPlaysUptoCard : Claim7 := { stood := { row := sessionPlaysUptoRow, standIns := [], harness := (true, "001bb153f1e8f048234a9cc64fff34213404d6842f50f704cbdea55cb3144d2b"), looks := false }, kinds := [], alts := [], laidByText := true, laidKinds := [.data, .pinned, .pinned], laidTests := true, laidLooks := .later }
def SessionPlaysUptoCardSaid : Prop := Claim7.holds Tryd.pinned (.plain (OpenSpec.upto sessionPlaysSpec)) sessionPlaysUptoCard
end Rows
end Go.Proofs.YtgpikicifpjffaaDoor
