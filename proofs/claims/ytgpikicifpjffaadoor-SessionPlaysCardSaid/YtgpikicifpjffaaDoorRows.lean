/-
  NARROWER THAN 'FOR EVERY INPUT', by the rows' own cells (each row's printed sentence says how): SessionCircle: laid · SessionPrunes: laid · SessionChecks: laid · SessionOpens: laid · SessionValid: laid · SessionApart: laid · SessionBack: laid · SessionPlays: laid.
  DERIVED. THE GIVEN ROWS OF THIS SEAT. 8 by the template 'for every input the law returns true; each argument reads behind the call as it read before'; 0 by the template 'total and deterministic' (their statements: YtgpikicifpjffaaDoorTotals.lean).
  GIVEN WITH THE SEED: the statements are not yours to turn. If you find one false, say at which input.
  Laid BY PROGRAM, IN A SANDBOX (cutbox-rows.mjs): the forced cells as the released guide's own fill.sh prints them over the translation edd75945fcaeef70… (all of the seat's roots in one cut). By AI agents, Wed Nov 11 2026. No macro, syntax, notation, axiom, sorry.
-/
import Derived.Test.YtgpikicifpjffaaDoorChecked
import GoSem.PinnedTables
import GoSem.Claim
import GoSem.ClaimJoined
import GoSem.ClaimMapViews
import Derived.JoinedTies
import Derived.KernelRfl
namespace Go.Proofs.YtgpikicifpjffaaDoor
/- THE CELL 'sum', in the pinned program and in every row, IS THE sha256 OF THE DUMP (.gsa) THAT YtgpikicifpjffaaDoorProg.lean LOADS. Nothing in Lean hashes anything: it is a label: what it is worth is what the hold of that sum in a sandbox is worth. -/
noncomputable def Tryd.pinned : Pinned := { name := "ytgpikicifpjffaadoor", sum := "edd75945fcaeef70d8d34f056024dcbd1472097b6d214de3b364a3afbc11c542", checked := Tryd.checked }
namespace Rows
def none {H : Type} : Left H := { results := [], args := [] }

/- WHAT THE LISTED PACKAGE-LEVEL VARIABLES READ AS WHEN THE CALL BEGINS. Each datum BY PROGRAM (the guide's laid-datum.mjs) off the statement by which the dump's own 'gosem.cut.vars' lays the variable. In a bare row this is a premise. The card (YtgpikicifpjffaaDoorCards.lean) ties it to the program's text. -/
def laid_unicode_utf8_acceptRanges {H : Type} : DataW H := .agg [.agg [.lit (.int .u8 128), .lit (.int .u8 191)], .agg [.lit (.int .u8 160), .lit (.int .u8 191)], .agg [.lit (.int .u8 128), .lit (.int .u8 159)], .agg [.lit (.int .u8 144), .lit (.int .u8 191)], .agg [.lit (.int .u8 128), .lit (.int .u8 143)], .agg [.lit (.int .u8 0), .lit (.int .u8 0)], .agg [.lit (.int .u8 0), .lit (.int .u8 0)], .agg [.lit (.int .u8 0), .lit (.int .u8 0)], .agg [.lit (.int .u8 0), .lit (.int .u8 0)], .agg [.lit (.int .u8 0), .lit (.int .u8 0)], .agg [.lit (.int .u8 0), .lit (.int .u8 0)], .agg [.lit (.int .u8 0), .lit (.int .u8 0)], .agg [.lit (.int .u8 0), .lit (.int .u8 0)], .agg [.lit (.int .u8 0), .lit (.int .u8 0)], .agg [.lit (.int .u8 0), .lit (.int .u8 0)], .agg [.lit (.int .u8 0), .lit (.int .u8 0)]]
/-- One of Go's own tables, pinned by name: the form's constant. -/
def laid_unicode_CaseRanges : DataW Unit := Go.Pinned.caseRanges
/-- One of Go's own tables, pinned by name: the form's constant. -/
def laid_unicode_utf8_first : DataW Unit := Go.Pinned.utf8First

/-- 'coldpluglaw37.SessionCircle': WHATEVER THE INPUT: true; the input reads as it did. -/
def sessionCircleSpec : ChangeSpec := { name := "sessionCircle", fn := fun _ => fun
  | [d] => { results := [.lit (.bool true)], args := [d] }
  | _ => none }
def sessionCircleRow : OpenClaim := { program := "ytgpikicifpjffaadoor", sum := "edd75945fcaeef70d8d34f056024dcbd1472097b6d214de3b364a3afbc11c542", func := "coldplug/coldpluglaw37.SessionCircle", spec := "sessionCircle", inPlace := ["internal/abi.NoEscape", "internal/bytealg.MakeNoZero"], unfollowed := true, recurses := true, named := ["unicode/utf8.first", "unicode/utf8.acceptRanges", "unicode.CaseRanges"], apart := false, laid := [("unicode/utf8.acceptRanges", laid_unicode_utf8_acceptRanges), ("unicode.CaseRanges", laid_unicode_CaseRanges), ("unicode/utf8.first", laid_unicode_utf8_first)] }
def SessionCircleSaid : Prop := sessionCircleRow.holds Tryd.pinned (OpenSpec.ofChange sessionCircleSpec)

/-- ITS FALSE NEIGHBOUR: 'it returns false'. Refute it at one input. -/
def sessionCircleWrong : ChangeSpec := { name := "sessionCircle", fn := fun _ => fun
  | [d] => { results := [.lit (.bool false)], args := [d] }
  | _ => none }
def SessionCircleWrongFalsely : Prop := sessionCircleRow.holds Tryd.pinned (OpenSpec.ofChange sessionCircleWrong)

/-- 'coldpluglaw37.SessionPrunes': WHATEVER THE INPUT: true; the input reads as it did. -/
def sessionPrunesSpec : ChangeSpec := { name := "sessionPrunes", fn := fun _ => fun
  | [d1, d2] => { results := [.lit (.bool true)], args := [d1, d2] }
  | _ => none }
def sessionPrunesRow : OpenClaim := { program := "ytgpikicifpjffaadoor", sum := "edd75945fcaeef70d8d34f056024dcbd1472097b6d214de3b364a3afbc11c542", func := "coldplug/coldpluglaw37.SessionPrunes", spec := "sessionPrunes", inPlace := ["internal/abi.NoEscape", "internal/bytealg.MakeNoZero"], unfollowed := true, recurses := true, named := ["unicode/utf8.first", "unicode/utf8.acceptRanges", "unicode.CaseRanges"], apart := false, laid := [("unicode/utf8.acceptRanges", laid_unicode_utf8_acceptRanges), ("unicode.CaseRanges", laid_unicode_CaseRanges), ("unicode/utf8.first", laid_unicode_utf8_first)] }
def SessionPrunesSaid : Prop := sessionPrunesRow.holds Tryd.pinned (OpenSpec.ofChange sessionPrunesSpec)

/-- ITS FALSE NEIGHBOUR: 'it returns false'. Refute it at one input. -/
def sessionPrunesWrong : ChangeSpec := { name := "sessionPrunes", fn := fun _ => fun
  | [d1, d2] => { results := [.lit (.bool false)], args := [d1, d2] }
  | _ => none }
def SessionPrunesWrongFalsely : Prop := sessionPrunesRow.holds Tryd.pinned (OpenSpec.ofChange sessionPrunesWrong)

/-- 'coldpluglaw37.SessionChecks': WHATEVER THE INPUT: true; the input reads as it did. -/
def sessionChecksSpec : ChangeSpec := { name := "sessionChecks", fn := fun _ => fun
  | [d1, d2, d3] => { results := [.lit (.bool true)], args := [d1, d2, d3] }
  | _ => none }
def sessionChecksRow : OpenClaim := { program := "ytgpikicifpjffaadoor", sum := "edd75945fcaeef70d8d34f056024dcbd1472097b6d214de3b364a3afbc11c542", func := "coldplug/coldpluglaw37.SessionChecks", spec := "sessionChecks", inPlace := ["internal/abi.NoEscape", "internal/bytealg.MakeNoZero", "internal/bytealg.IndexByteString"], unfollowed := true, recurses := true, named := ["unicode/utf8.first", "unicode/utf8.acceptRanges", "unicode.CaseRanges"], apart := false, laid := [("unicode/utf8.acceptRanges", laid_unicode_utf8_acceptRanges), ("unicode.CaseRanges", laid_unicode_CaseRanges), ("unicode/utf8.first", laid_unicode_utf8_first)] }
def SessionChecksSaid : Prop := sessionChecksRow.holds Tryd.pinned (OpenSpec.ofChange sessionChecksSpec)

/-- ITS FALSE NEIGHBOUR: 'it returns false'. Refute it at one input. -/
def sessionChecksWrong : ChangeSpec := { name := "sessionChecks", fn := fun _ => fun
  | [d1, d2, d3] => { results := [.lit (.bool false)], args := [d1, d2, d3] }
  | _ => none }
def SessionChecksWrongFalsely : Prop := sessionChecksRow.holds Tryd.pinned (OpenSpec.ofChange sessionChecksWrong)

/-- 'coldpluglaw37.SessionOpens': WHATEVER THE INPUT: true; the input reads as it did. -/
def sessionOpensSpec : ChangeSpec := { name := "sessionOpens", fn := fun _ => fun
  | [d1, d2, d3, d4] => { results := [.lit (.bool true)], args := [d1, d2, d3, d4] }
  | _ => none }
def sessionOpensRow : OpenClaim := { program := "ytgpikicifpjffaadoor", sum := "edd75945fcaeef70d8d34f056024dcbd1472097b6d214de3b364a3afbc11c542", func := "coldplug/coldpluglaw37.SessionOpens", spec := "sessionOpens", inPlace := ["internal/abi.NoEscape", "internal/bytealg.MakeNoZero", "internal/bytealg.IndexByteString"], unfollowed := true, recurses := true, named := ["unicode/utf8.first", "unicode/utf8.acceptRanges", "unicode.CaseRanges"], apart := false, laid := [("unicode/utf8.acceptRanges", laid_unicode_utf8_acceptRanges), ("unicode.CaseRanges", laid_unicode_CaseRanges), ("unicode/utf8.first", laid_unicode_utf8_first)] }
def SessionOpensSaid : Prop := sessionOpensRow.holds Tryd.pinned (OpenSpec.ofChange sessionOpensSpec)

/-- ITS FALSE NEIGHBOUR: 'it returns false'. Refute it at one input. -/
def sessionOpensWrong : ChangeSpec := { name := "sessionOpens", fn := fun _ => fun
  | [d1, d2, d3, d4] => { results := [.lit (.bool false)], args := [d1, d2, d3, d4] }
  | _ => none }
def SessionOpensWrongFalsely : Prop := sessionOpensRow.holds Tryd.pinned (OpenSpec.ofChange sessionOpensWrong)

/-- 'coldpluglaw37.SessionValid': WHATEVER THE INPUT: true; the input reads as it did. -/
def sessionValidSpec : ChangeSpec := { name := "sessionValid", fn := fun _ => fun
  | [d] => { results := [.lit (.bool true)], args := [d] }
  | _ => none }
def sessionValidRow : OpenClaim := { program := "ytgpikicifpjffaadoor", sum := "edd75945fcaeef70d8d34f056024dcbd1472097b6d214de3b364a3afbc11c542", func := "coldplug/coldpluglaw37.SessionValid", spec := "sessionValid", inPlace := ["internal/abi.NoEscape", "internal/bytealg.MakeNoZero"], unfollowed := true, recurses := true, named := ["unicode/utf8.first", "unicode/utf8.acceptRanges", "unicode.CaseRanges"], apart := false, laid := [("unicode/utf8.acceptRanges", laid_unicode_utf8_acceptRanges), ("unicode.CaseRanges", laid_unicode_CaseRanges), ("unicode/utf8.first", laid_unicode_utf8_first)] }
def SessionValidSaid : Prop := sessionValidRow.holds Tryd.pinned (OpenSpec.ofChange sessionValidSpec)

/-- ITS FALSE NEIGHBOUR: 'it returns false'. Refute it at one input. -/
def sessionValidWrong : ChangeSpec := { name := "sessionValid", fn := fun _ => fun
  | [d] => { results := [.lit (.bool false)], args := [d] }
  | _ => none }
def SessionValidWrongFalsely : Prop := sessionValidRow.holds Tryd.pinned (OpenSpec.ofChange sessionValidWrong)

/-- 'coldpluglaw37.SessionApart': WHATEVER THE INPUT: true; the input reads as it did. -/
def sessionApartSpec : ChangeSpec := { name := "sessionApart", fn := fun _ => fun
  | [d] => { results := [.lit (.bool true)], args := [d] }
  | _ => none }
def sessionApartRow : OpenClaim := { program := "ytgpikicifpjffaadoor", sum := "edd75945fcaeef70d8d34f056024dcbd1472097b6d214de3b364a3afbc11c542", func := "coldplug/coldpluglaw37.SessionApart", spec := "sessionApart", inPlace := ["internal/abi.NoEscape", "internal/bytealg.MakeNoZero"], unfollowed := true, recurses := true, named := ["unicode/utf8.first", "unicode/utf8.acceptRanges", "unicode.CaseRanges"], apart := false, laid := [("unicode/utf8.acceptRanges", laid_unicode_utf8_acceptRanges), ("unicode.CaseRanges", laid_unicode_CaseRanges), ("unicode/utf8.first", laid_unicode_utf8_first)] }
def SessionApartSaid : Prop := sessionApartRow.holds Tryd.pinned (OpenSpec.ofChange sessionApartSpec)

/-- ITS FALSE NEIGHBOUR: 'it returns false'. Refute it at one input. -/
def sessionApartWrong : ChangeSpec := { name := "sessionApart", fn := fun _ => fun
  | [d] => { results := [.lit (.bool false)], args := [d] }
  | _ => none }
def SessionApartWrongFalsely : Prop := sessionApartRow.holds Tryd.pinned (OpenSpec.ofChange sessionApartWrong)

/-- 'coldpluglaw37.SessionBack': WHATEVER THE INPUT: true; the input reads as it did. -/
def sessionBackSpec : ChangeSpec := { name := "sessionBack", fn := fun _ => fun
  | [d] => { results := [.lit (.bool true)], args := [d] }
  | _ => none }
def sessionBackRow : OpenClaim := { program := "ytgpikicifpjffaadoor", sum := "edd75945fcaeef70d8d34f056024dcbd1472097b6d214de3b364a3afbc11c542", func := "coldplug/coldpluglaw37.SessionBack", spec := "sessionBack", inPlace := ["internal/abi.NoEscape", "internal/bytealg.MakeNoZero"], unfollowed := true, recurses := true, named := ["unicode/utf8.first", "unicode/utf8.acceptRanges", "unicode.CaseRanges"], apart := false, laid := [("unicode/utf8.acceptRanges", laid_unicode_utf8_acceptRanges), ("unicode.CaseRanges", laid_unicode_CaseRanges), ("unicode/utf8.first", laid_unicode_utf8_first)] }
def SessionBackSaid : Prop := sessionBackRow.holds Tryd.pinned (OpenSpec.ofChange sessionBackSpec)

/-- ITS FALSE NEIGHBOUR: 'it returns false'. Refute it at one input. -/
def sessionBackWrong : ChangeSpec := { name := "sessionBack", fn := fun _ => fun
  | [d] => { results := [.lit (.bool false)], args := [d] }
  | _ => none }
def SessionBackWrongFalsely : Prop := sessionBackRow.holds Tryd.pinned (OpenSpec.ofChange sessionBackWrong)

/-- 'coldpluglaw37.SessionPlays': WHATEVER THE INPUT: true; the input reads as it did. -/
def sessionPlaysSpec : ChangeSpec := { name := "sessionPlays", fn := fun _ => fun
  | [d1, d2] => { results := [.lit (.bool true)], args := [d1, d2] }
  | _ => none }
def sessionPlaysRow : OpenClaim := { program := "ytgpikicifpjffaadoor", sum := "edd75945fcaeef70d8d34f056024dcbd1472097b6d214de3b364a3afbc11c542", func := "coldplug/coldpluglaw37.SessionPlays", spec := "sessionPlays", inPlace := ["internal/abi.NoEscape", "internal/bytealg.MakeNoZero", "internal/bytealg.IndexByteString"], unfollowed := true, recurses := true, named := ["unicode/utf8.first", "unicode/utf8.acceptRanges", "unicode.CaseRanges"], apart := false, laid := [("unicode/utf8.acceptRanges", laid_unicode_utf8_acceptRanges), ("unicode.CaseRanges", laid_unicode_CaseRanges), ("unicode/utf8.first", laid_unicode_utf8_first)] }
def SessionPlaysSaid : Prop := sessionPlaysRow.holds Tryd.pinned (OpenSpec.ofChange sessionPlaysSpec)

/-- ITS FALSE NEIGHBOUR: 'it returns false'. Refute it at one input. -/
def sessionPlaysWrong : ChangeSpec := { name := "sessionPlays", fn := fun _ => fun
  | [d1, d2] => { results := [.lit (.bool false)], args := [d1, d2] }
  | _ => none }
def SessionPlaysWrongFalsely : Prop := sessionPlaysRow.holds Tryd.pinned (OpenSpec.ofChange sessionPlaysWrong)

/- THE SECOND FORM. 'bulk': how many values and letters a reading holds, each counted each time it is reached (what is shared counts as often as it is met; a slice's spare places count too). A statement '..UptoSaid' is the law's where the arguments, and the package variables that the reading takes, are together of bulk at most 1048576: NARROWER than '..Said'. Prove '..Said' where nothing that the law and all that it calls make is longer than what came in: it says more and counts as full. Else prove '..UptoSaid'. A law counts once. -/
mutual
def uptoBulk {H : Type} : DataW H → Nat
  | .lit (.string bytes) => bytes.length + 1
  | .lit _ => 1
  | .nil => 1
  | .ptr d => uptoBulk d + 1
  | .slice elems spare => uptoBulkAll elems + uptoBulkAll spare + 1
  | .agg parts => uptoBulkAll parts + 1
  | .iface _ d => uptoBulk d + 1
  | .map entries => uptoBulkEntries entries + 1
  | .held _ => 1
def uptoBulkAll {H : Type} : List (DataW H) → Nat
  | [] => 0
  | d :: r => uptoBulk d + uptoBulkAll r
def uptoBulkEntries {H : Type} : List (Lit × DataW H) → Nat
  | [] => 0
  | x :: r => uptoBulkEntry x + uptoBulkEntries r
def uptoBulkEntry {H : Type} : Lit × DataW H → Nat
  | (.string bytes, d) => bytes.length + uptoBulk d + 1
  | (_, d) => uptoBulk d + 1
 end
def uptoSmall : (H : Type) → List (DataW H) → Bool := fun _ ds => decide (uptoBulkAll ds ≤ 1048576)
def OpenSpec.upto (s : _root_.Go.ChangeSpec) : _root_.Go.OpenSpec := { _root_.Go.OpenSpec.ofChange s with cond := some uptoSmall }

/-- 'coldpluglaw37.SessionCircle', WHERE WHAT IT READS IS OF BULK AT MOST 1048576: true; the input reads as it did. -/
def sessionCircleUptoRow : OpenClaim := { program := "ytgpikicifpjffaadoor", sum := "edd75945fcaeef70d8d34f056024dcbd1472097b6d214de3b364a3afbc11c542", func := "coldplug/coldpluglaw37.SessionCircle", spec := "sessionCircle", inPlace := ["internal/abi.NoEscape", "internal/bytealg.MakeNoZero"], unfollowed := true, recurses := true, named := ["unicode/utf8.first", "unicode/utf8.acceptRanges", "unicode.CaseRanges"], apart := false, laid := [("unicode/utf8.acceptRanges", laid_unicode_utf8_acceptRanges), ("unicode.CaseRanges", laid_unicode_CaseRanges), ("unicode/utf8.first", laid_unicode_utf8_first)], narrowed := true }
def SessionCircleUptoSaid : Prop := sessionCircleUptoRow.holds Tryd.pinned (OpenSpec.upto sessionCircleSpec)

/-- 'coldpluglaw37.SessionPrunes', WHERE WHAT IT READS IS OF BULK AT MOST 1048576: true; the input reads as it did. -/
def sessionPrunesUptoRow : OpenClaim := { program := "ytgpikicifpjffaadoor", sum := "edd75945fcaeef70d8d34f056024dcbd1472097b6d214de3b364a3afbc11c542", func := "coldplug/coldpluglaw37.SessionPrunes", spec := "sessionPrunes", inPlace := ["internal/abi.NoEscape", "internal/bytealg.MakeNoZero"], unfollowed := true, recurses := true, named := ["unicode/utf8.first", "unicode/utf8.acceptRanges", "unicode.CaseRanges"], apart := false, laid := [("unicode/utf8.acceptRanges", laid_unicode_utf8_acceptRanges), ("unicode.CaseRanges", laid_unicode_CaseRanges), ("unicode/utf8.first", laid_unicode_utf8_first)], narrowed := true }
def SessionPrunesUptoSaid : Prop := sessionPrunesUptoRow.holds Tryd.pinned (OpenSpec.upto sessionPrunesSpec)

/-- 'coldpluglaw37.SessionChecks', WHERE WHAT IT READS IS OF BULK AT MOST 1048576: true; the input reads as it did. -/
def sessionChecksUptoRow : OpenClaim := { program := "ytgpikicifpjffaadoor", sum := "edd75945fcaeef70d8d34f056024dcbd1472097b6d214de3b364a3afbc11c542", func := "coldplug/coldpluglaw37.SessionChecks", spec := "sessionChecks", inPlace := ["internal/abi.NoEscape", "internal/bytealg.MakeNoZero", "internal/bytealg.IndexByteString"], unfollowed := true, recurses := true, named := ["unicode/utf8.first", "unicode/utf8.acceptRanges", "unicode.CaseRanges"], apart := false, laid := [("unicode/utf8.acceptRanges", laid_unicode_utf8_acceptRanges), ("unicode.CaseRanges", laid_unicode_CaseRanges), ("unicode/utf8.first", laid_unicode_utf8_first)], narrowed := true }
def SessionChecksUptoSaid : Prop := sessionChecksUptoRow.holds Tryd.pinned (OpenSpec.upto sessionChecksSpec)

/-- 'coldpluglaw37.SessionOpens', WHERE WHAT IT READS IS OF BULK AT MOST 1048576: true; the input reads as it did. -/
def sessionOpensUptoRow : OpenClaim := { program := "ytgpikicifpjffaadoor", sum := "edd75945fcaeef70d8d34f056024dcbd1472097b6d214de3b364a3afbc11c542", func := "coldplug/coldpluglaw37.SessionOpens", spec := "sessionOpens", inPlace := ["internal/abi.NoEscape", "internal/bytealg.MakeNoZero", "internal/bytealg.IndexByteString"], unfollowed := true, recurses := true, named := ["unicode/utf8.first", "unicode/utf8.acceptRanges", "unicode.CaseRanges"], apart := false, laid := [("unicode/utf8.acceptRanges", laid_unicode_utf8_acceptRanges), ("unicode.CaseRanges", laid_unicode_CaseRanges), ("unicode/utf8.first", laid_unicode_utf8_first)], narrowed := true }
def SessionOpensUptoSaid : Prop := sessionOpensUptoRow.holds Tryd.pinned (OpenSpec.upto sessionOpensSpec)

/-- 'coldpluglaw37.SessionValid', WHERE WHAT IT READS IS OF BULK AT MOST 1048576: true; the input reads as it did. -/
def sessionValidUptoRow : OpenClaim := { program := "ytgpikicifpjffaadoor", sum := "edd75945fcaeef70d8d34f056024dcbd1472097b6d214de3b364a3afbc11c542", func := "coldplug/coldpluglaw37.SessionValid", spec := "sessionValid", inPlace := ["internal/abi.NoEscape", "internal/bytealg.MakeNoZero"], unfollowed := true, recurses := true, named := ["unicode/utf8.first", "unicode/utf8.acceptRanges", "unicode.CaseRanges"], apart := false, laid := [("unicode/utf8.acceptRanges", laid_unicode_utf8_acceptRanges), ("unicode.CaseRanges", laid_unicode_CaseRanges), ("unicode/utf8.first", laid_unicode_utf8_first)], narrowed := true }
def SessionValidUptoSaid : Prop := sessionValidUptoRow.holds Tryd.pinned (OpenSpec.upto sessionValidSpec)

/-- 'coldpluglaw37.SessionApart', WHERE WHAT IT READS IS OF BULK AT MOST 1048576: true; the input reads as it did. -/
def sessionApartUptoRow : OpenClaim := { program := "ytgpikicifpjffaadoor", sum := "edd75945fcaeef70d8d34f056024dcbd1472097b6d214de3b364a3afbc11c542", func := "coldplug/coldpluglaw37.SessionApart", spec := "sessionApart", inPlace := ["internal/abi.NoEscape", "internal/bytealg.MakeNoZero"], unfollowed := true, recurses := true, named := ["unicode/utf8.first", "unicode/utf8.acceptRanges", "unicode.CaseRanges"], apart := false, laid := [("unicode/utf8.acceptRanges", laid_unicode_utf8_acceptRanges), ("unicode.CaseRanges", laid_unicode_CaseRanges), ("unicode/utf8.first", laid_unicode_utf8_first)], narrowed := true }
def SessionApartUptoSaid : Prop := sessionApartUptoRow.holds Tryd.pinned (OpenSpec.upto sessionApartSpec)

/-- 'coldpluglaw37.SessionBack', WHERE WHAT IT READS IS OF BULK AT MOST 1048576: true; the input reads as it did. -/
def sessionBackUptoRow : OpenClaim := { program := "ytgpikicifpjffaadoor", sum := "edd75945fcaeef70d8d34f056024dcbd1472097b6d214de3b364a3afbc11c542", func := "coldplug/coldpluglaw37.SessionBack", spec := "sessionBack", inPlace := ["internal/abi.NoEscape", "internal/bytealg.MakeNoZero"], unfollowed := true, recurses := true, named := ["unicode/utf8.first", "unicode/utf8.acceptRanges", "unicode.CaseRanges"], apart := false, laid := [("unicode/utf8.acceptRanges", laid_unicode_utf8_acceptRanges), ("unicode.CaseRanges", laid_unicode_CaseRanges), ("unicode/utf8.first", laid_unicode_utf8_first)], narrowed := true }
def SessionBackUptoSaid : Prop := sessionBackUptoRow.holds Tryd.pinned (OpenSpec.upto sessionBackSpec)

/-- 'coldpluglaw37.SessionPlays', WHERE WHAT IT READS IS OF BULK AT MOST 1048576: true; the input reads as it did. -/
def sessionPlaysUptoRow : OpenClaim := { program := "ytgpikicifpjffaadoor", sum := "edd75945fcaeef70d8d34f056024dcbd1472097b6d214de3b364a3afbc11c542", func := "coldplug/coldpluglaw37.SessionPlays", spec := "sessionPlays", inPlace := ["internal/abi.NoEscape", "internal/bytealg.MakeNoZero", "internal/bytealg.IndexByteString"], unfollowed := true, recurses := true, named := ["unicode/utf8.first", "unicode/utf8.acceptRanges", "unicode.CaseRanges"], apart := false, laid := [("unicode/utf8.acceptRanges", laid_unicode_utf8_acceptRanges), ("unicode.CaseRanges", laid_unicode_CaseRanges), ("unicode/utf8.first", laid_unicode_utf8_first)], narrowed := true }
def SessionPlaysUptoSaid : Prop := sessionPlaysUptoRow.holds Tryd.pinned (OpenSpec.upto sessionPlaysSpec)

end Rows
end Go.Proofs.YtgpikicifpjffaaDoor
