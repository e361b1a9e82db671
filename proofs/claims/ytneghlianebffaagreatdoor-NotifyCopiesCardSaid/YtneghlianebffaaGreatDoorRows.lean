/-
  NARROWER THAN 'FOR EVERY INPUT', by the rows' own cells (each row's printed sentence says how): NotifyBehind: laid · NotifyFull: laid · NotifyParents: laid · NotifyAlone: laid · NotifyPlays: laid · NotifyFilters: laid · NotifyCopies: laid · NotifyViews: laid · NotifyTells: laid.
  DERIVED. THE GIVEN ROWS OF THIS SEAT. 9 by the template 'for every input the law returns true; each argument reads behind the call as it read before'; 0 by the template 'total and deterministic' (their statements: YtneghlianebffaaGreatDoorTotals.lean).
  GIVEN WITH THE SEED: the statements are not yours to turn. If you find one false, say at which input.
  Laid BY PROGRAM, IN A SANDBOX (cutbox-rows.mjs): the forced cells as the released guide's own fill.sh prints them over the translation 2853f4a3322fb94d… (all of the seat's roots in one cut). By AI agents, Wed Nov 11 2026. No macro, syntax, notation, axiom, sorry.
-/
import Derived.Test.YtneghlianebffaaGreatDoorChecked
import GoSem.PinnedTables
import GoSem.Claim
import GoSem.ClaimJoined
import GoSem.ClaimMapViews
import Derived.JoinedTies
import Derived.KernelRfl
namespace Go.Proofs.YtneghlianebffaaGreatDoor
/- THE CELL 'sum', in the pinned program and in every row, IS THE sha256 OF THE DUMP (.gsa) THAT YtneghlianebffaaGreatDoorProg.lean LOADS. Nothing in Lean hashes anything: it is a label: what it is worth is what the hold of that sum in a sandbox is worth. -/
noncomputable def Tryz.pinned : Pinned := { name := "ytneghlianebffaagreatdoor", sum := "2853f4a3322fb94d88c887ce90a2ed9e1af0ac6c7f3cbb545b8801afad61ef28", checked := Tryz.checked }
namespace Rows
def none {H : Type} : Left H := { results := [], args := [] }

/- WHAT THE LISTED PACKAGE-LEVEL VARIABLES READ AS WHEN THE CALL BEGINS. Each datum BY PROGRAM (the guide's laid-datum.mjs) off the statement by which the dump's own 'gosem.cut.vars' lays the variable. In a bare row this is a premise. The card (YtneghlianebffaaGreatDoorCards.lean) ties it to the program's text. -/
def laid_unicode_utf8_acceptRanges {H : Type} : DataW H := .agg [.agg [.lit (.int .u8 128), .lit (.int .u8 191)], .agg [.lit (.int .u8 160), .lit (.int .u8 191)], .agg [.lit (.int .u8 128), .lit (.int .u8 159)], .agg [.lit (.int .u8 144), .lit (.int .u8 191)], .agg [.lit (.int .u8 128), .lit (.int .u8 143)], .agg [.lit (.int .u8 0), .lit (.int .u8 0)], .agg [.lit (.int .u8 0), .lit (.int .u8 0)], .agg [.lit (.int .u8 0), .lit (.int .u8 0)], .agg [.lit (.int .u8 0), .lit (.int .u8 0)], .agg [.lit (.int .u8 0), .lit (.int .u8 0)], .agg [.lit (.int .u8 0), .lit (.int .u8 0)], .agg [.lit (.int .u8 0), .lit (.int .u8 0)], .agg [.lit (.int .u8 0), .lit (.int .u8 0)], .agg [.lit (.int .u8 0), .lit (.int .u8 0)], .agg [.lit (.int .u8 0), .lit (.int .u8 0)], .agg [.lit (.int .u8 0), .lit (.int .u8 0)]]
/-- One of Go's own tables, pinned by name: the form's constant. -/
def laid_unicode_CaseRanges : DataW Unit := Go.Pinned.caseRanges
/-- One of Go's own tables, pinned by name: the form's constant. -/
def laid_unicode_utf8_first : DataW Unit := Go.Pinned.utf8First

/-- 'coldpluglaw30.NotifyBehind': WHATEVER THE INPUT: true; the input reads as it did. -/
def notifyBehindSpec : ChangeSpec := { name := "notifyBehind", fn := fun _ => fun
  | [d1, d2] => { results := [.lit (.bool true)], args := [d1, d2] }
  | _ => none }
def notifyBehindRow : OpenClaim := { program := "ytneghlianebffaagreatdoor", sum := "2853f4a3322fb94d88c887ce90a2ed9e1af0ac6c7f3cbb545b8801afad61ef28", func := "coldplug/coldpluglaw30.NotifyBehind", spec := "notifyBehind", inPlace := ["internal/abi.NoEscape", "internal/bytealg.MakeNoZero", "internal/bytealg.CountString", "internal/bytealg.IndexByteString", "internal/bytealg.IndexString"], unfollowed := true, recurses := true, named := ["unicode/utf8.first", "unicode/utf8.acceptRanges", "unicode.CaseRanges", "internal/bytealg.MaxLen"], apart := false, laid := [("unicode/utf8.acceptRanges", laid_unicode_utf8_acceptRanges), ("unicode.CaseRanges", laid_unicode_CaseRanges), ("unicode/utf8.first", laid_unicode_utf8_first)] }
def NotifyBehindSaid : Prop := notifyBehindRow.holds Tryz.pinned (OpenSpec.ofChange notifyBehindSpec)

/-- ITS FALSE NEIGHBOUR: 'it returns false'. Refute it at one input. -/
def notifyBehindWrong : ChangeSpec := { name := "notifyBehind", fn := fun _ => fun
  | [d1, d2] => { results := [.lit (.bool false)], args := [d1, d2] }
  | _ => none }
def NotifyBehindWrongFalsely : Prop := notifyBehindRow.holds Tryz.pinned (OpenSpec.ofChange notifyBehindWrong)

/-- 'coldpluglaw30.NotifyFull': WHATEVER THE INPUT: true; the input reads as it did. -/
def notifyFullSpec : ChangeSpec := { name := "notifyFull", fn := fun _ => fun
  | [d] => { results := [.lit (.bool true)], args := [d] }
  | _ => none }
def notifyFullRow : OpenClaim := { program := "ytneghlianebffaagreatdoor", sum := "2853f4a3322fb94d88c887ce90a2ed9e1af0ac6c7f3cbb545b8801afad61ef28", func := "coldplug/coldpluglaw30.NotifyFull", spec := "notifyFull", inPlace := ["internal/abi.NoEscape", "internal/bytealg.MakeNoZero", "internal/bytealg.CountString", "internal/bytealg.IndexByteString", "internal/bytealg.IndexString"], unfollowed := true, recurses := true, named := ["unicode/utf8.first", "unicode/utf8.acceptRanges", "unicode.CaseRanges", "internal/bytealg.MaxLen"], apart := false, laid := [("unicode/utf8.acceptRanges", laid_unicode_utf8_acceptRanges), ("unicode.CaseRanges", laid_unicode_CaseRanges), ("unicode/utf8.first", laid_unicode_utf8_first)] }
def NotifyFullSaid : Prop := notifyFullRow.holds Tryz.pinned (OpenSpec.ofChange notifyFullSpec)

/-- ITS FALSE NEIGHBOUR: 'it returns false'. Refute it at one input. -/
def notifyFullWrong : ChangeSpec := { name := "notifyFull", fn := fun _ => fun
  | [d] => { results := [.lit (.bool false)], args := [d] }
  | _ => none }
def NotifyFullWrongFalsely : Prop := notifyFullRow.holds Tryz.pinned (OpenSpec.ofChange notifyFullWrong)

/-- 'coldpluglaw30.NotifyParents': WHATEVER THE INPUT: true; the input reads as it did. -/
def notifyParentsSpec : ChangeSpec := { name := "notifyParents", fn := fun _ => fun
  | [d] => { results := [.lit (.bool true)], args := [d] }
  | _ => none }
def notifyParentsRow : OpenClaim := { program := "ytneghlianebffaagreatdoor", sum := "2853f4a3322fb94d88c887ce90a2ed9e1af0ac6c7f3cbb545b8801afad61ef28", func := "coldplug/coldpluglaw30.NotifyParents", spec := "notifyParents", inPlace := ["internal/abi.NoEscape", "internal/bytealg.MakeNoZero", "internal/bytealg.IndexByteString", "internal/bytealg.CountString", "internal/bytealg.IndexString", "internal/bytealg.abigen_runtime_cmpstring"], unfollowed := true, recurses := true, named := ["unicode/utf8.first", "unicode/utf8.acceptRanges", "unicode.CaseRanges", "internal/bytealg.MaxLen"], apart := false, laid := [("unicode/utf8.acceptRanges", laid_unicode_utf8_acceptRanges), ("unicode.CaseRanges", laid_unicode_CaseRanges), ("unicode/utf8.first", laid_unicode_utf8_first)] }
def NotifyParentsSaid : Prop := notifyParentsRow.holds Tryz.pinned (OpenSpec.ofChange notifyParentsSpec)

/-- ITS FALSE NEIGHBOUR: 'it returns false'. Refute it at one input. -/
def notifyParentsWrong : ChangeSpec := { name := "notifyParents", fn := fun _ => fun
  | [d] => { results := [.lit (.bool false)], args := [d] }
  | _ => none }
def NotifyParentsWrongFalsely : Prop := notifyParentsRow.holds Tryz.pinned (OpenSpec.ofChange notifyParentsWrong)

/-- 'coldpluglaw30.NotifyAlone': WHATEVER THE INPUT: true; the input reads as it did. -/
def notifyAloneSpec : ChangeSpec := { name := "notifyAlone", fn := fun _ => fun
  | [d] => { results := [.lit (.bool true)], args := [d] }
  | _ => none }
def notifyAloneRow : OpenClaim := { program := "ytneghlianebffaagreatdoor", sum := "2853f4a3322fb94d88c887ce90a2ed9e1af0ac6c7f3cbb545b8801afad61ef28", func := "coldplug/coldpluglaw30.NotifyAlone", spec := "notifyAlone", inPlace := ["internal/abi.NoEscape", "internal/bytealg.MakeNoZero", "internal/bytealg.CountString", "internal/bytealg.IndexByteString", "internal/bytealg.IndexString", "internal/bytealg.abigen_runtime_cmpstring"], unfollowed := true, recurses := true, named := ["unicode/utf8.first", "unicode/utf8.acceptRanges", "unicode.CaseRanges", "internal/bytealg.MaxLen"], apart := false, laid := [("unicode/utf8.acceptRanges", laid_unicode_utf8_acceptRanges), ("unicode.CaseRanges", laid_unicode_CaseRanges), ("unicode/utf8.first", laid_unicode_utf8_first)] }
def NotifyAloneSaid : Prop := notifyAloneRow.holds Tryz.pinned (OpenSpec.ofChange notifyAloneSpec)

/-- ITS FALSE NEIGHBOUR: 'it returns false'. Refute it at one input. -/
def notifyAloneWrong : ChangeSpec := { name := "notifyAlone", fn := fun _ => fun
  | [d] => { results := [.lit (.bool false)], args := [d] }
  | _ => none }
def NotifyAloneWrongFalsely : Prop := notifyAloneRow.holds Tryz.pinned (OpenSpec.ofChange notifyAloneWrong)

/-- 'coldpluglaw30.NotifyPlays': WHATEVER THE INPUT: true; the input reads as it did. -/
def notifyPlaysSpec : ChangeSpec := { name := "notifyPlays", fn := fun _ => fun
  | [d1, d2] => { results := [.lit (.bool true)], args := [d1, d2] }
  | _ => none }
def notifyPlaysRow : OpenClaim := { program := "ytneghlianebffaagreatdoor", sum := "2853f4a3322fb94d88c887ce90a2ed9e1af0ac6c7f3cbb545b8801afad61ef28", func := "coldplug/coldpluglaw30.NotifyPlays", spec := "notifyPlays", inPlace := ["internal/abi.NoEscape", "internal/bytealg.MakeNoZero", "internal/bytealg.CountString", "internal/bytealg.IndexByteString", "internal/bytealg.IndexString", "internal/bytealg.abigen_runtime_cmpstring"], unfollowed := true, recurses := true, named := ["unicode/utf8.first", "unicode/utf8.acceptRanges", "unicode.CaseRanges", "internal/bytealg.MaxLen"], apart := false, laid := [("unicode/utf8.acceptRanges", laid_unicode_utf8_acceptRanges), ("unicode.CaseRanges", laid_unicode_CaseRanges), ("unicode/utf8.first", laid_unicode_utf8_first)] }
def NotifyPlaysSaid : Prop := notifyPlaysRow.holds Tryz.pinned (OpenSpec.ofChange notifyPlaysSpec)

/-- ITS FALSE NEIGHBOUR: 'it returns false'. Refute it at one input. -/
def notifyPlaysWrong : ChangeSpec := { name := "notifyPlays", fn := fun _ => fun
  | [d1, d2] => { results := [.lit (.bool false)], args := [d1, d2] }
  | _ => none }
def NotifyPlaysWrongFalsely : Prop := notifyPlaysRow.holds Tryz.pinned (OpenSpec.ofChange notifyPlaysWrong)

/-- 'coldpluglaw30.NotifyFilters': WHATEVER THE INPUT: true; the input reads as it did. -/
def notifyFiltersSpec : ChangeSpec := { name := "notifyFilters", fn := fun _ => fun
  | [d] => { results := [.lit (.bool true)], args := [d] }
  | _ => none }
def notifyFiltersRow : OpenClaim := { program := "ytneghlianebffaagreatdoor", sum := "2853f4a3322fb94d88c887ce90a2ed9e1af0ac6c7f3cbb545b8801afad61ef28", func := "coldplug/coldpluglaw30.NotifyFilters", spec := "notifyFilters", inPlace := ["internal/abi.NoEscape", "internal/bytealg.MakeNoZero", "internal/bytealg.CountString", "internal/bytealg.IndexByteString", "internal/bytealg.IndexString", "internal/bytealg.abigen_runtime_cmpstring"], unfollowed := true, recurses := true, named := ["unicode/utf8.first", "unicode/utf8.acceptRanges", "unicode.CaseRanges", "internal/bytealg.MaxLen"], apart := false, laid := [("unicode/utf8.acceptRanges", laid_unicode_utf8_acceptRanges), ("unicode.CaseRanges", laid_unicode_CaseRanges), ("unicode/utf8.first", laid_unicode_utf8_first)] }
def NotifyFiltersSaid : Prop := notifyFiltersRow.holds Tryz.pinned (OpenSpec.ofChange notifyFiltersSpec)

/-- ITS FALSE NEIGHBOUR: 'it returns false'. Refute it at one input. -/
def notifyFiltersWrong : ChangeSpec := { name := "notifyFilters", fn := fun _ => fun
  | [d] => { results := [.lit (.bool false)], args := [d] }
  | _ => none }
def NotifyFiltersWrongFalsely : Prop := notifyFiltersRow.holds Tryz.pinned (OpenSpec.ofChange notifyFiltersWrong)

/-- 'coldpluglaw30.NotifyCopies': WHATEVER THE INPUT: true; the input reads as it did. -/
def notifyCopiesSpec : ChangeSpec := { name := "notifyCopies", fn := fun _ => fun
  | [d] => { results := [.lit (.bool true)], args := [d] }
  | _ => none }
def notifyCopiesRow : OpenClaim := { program := "ytneghlianebffaagreatdoor", sum := "2853f4a3322fb94d88c887ce90a2ed9e1af0ac6c7f3cbb545b8801afad61ef28", func := "coldplug/coldpluglaw30.NotifyCopies", spec := "notifyCopies", inPlace := ["internal/abi.NoEscape", "internal/bytealg.MakeNoZero", "internal/bytealg.IndexByteString", "internal/bytealg.CountString", "internal/bytealg.IndexString", "internal/bytealg.abigen_runtime_cmpstring", "maps.clone"], unfollowed := true, recurses := true, named := ["unicode/utf8.first", "unicode/utf8.acceptRanges", "unicode.CaseRanges", "internal/bytealg.MaxLen"], apart := false, laid := [("unicode/utf8.acceptRanges", laid_unicode_utf8_acceptRanges), ("unicode.CaseRanges", laid_unicode_CaseRanges), ("unicode/utf8.first", laid_unicode_utf8_first)] }
def NotifyCopiesSaid : Prop := notifyCopiesRow.holds Tryz.pinned (OpenSpec.ofChange notifyCopiesSpec)

/-- ITS FALSE NEIGHBOUR: 'it returns false'. Refute it at one input. -/
def notifyCopiesWrong : ChangeSpec := { name := "notifyCopies", fn := fun _ => fun
  | [d] => { results := [.lit (.bool false)], args := [d] }
  | _ => none }
def NotifyCopiesWrongFalsely : Prop := notifyCopiesRow.holds Tryz.pinned (OpenSpec.ofChange notifyCopiesWrong)

/-- 'coldpluglaw30.NotifyViews': WHATEVER THE INPUT: true; the input reads as it did. -/
def notifyViewsSpec : ChangeSpec := { name := "notifyViews", fn := fun _ => fun
  | [d] => { results := [.lit (.bool true)], args := [d] }
  | _ => none }
def notifyViewsRow : OpenClaim := { program := "ytneghlianebffaagreatdoor", sum := "2853f4a3322fb94d88c887ce90a2ed9e1af0ac6c7f3cbb545b8801afad61ef28", func := "coldplug/coldpluglaw30.NotifyViews", spec := "notifyViews", inPlace := ["internal/abi.NoEscape", "internal/bytealg.MakeNoZero", "internal/bytealg.IndexByteString", "internal/bytealg.CountString", "internal/bytealg.IndexString", "internal/bytealg.abigen_runtime_cmpstring"], unfollowed := true, recurses := true, named := ["unicode/utf8.first", "unicode/utf8.acceptRanges", "unicode.CaseRanges", "internal/bytealg.MaxLen"], apart := false, laid := [("unicode/utf8.acceptRanges", laid_unicode_utf8_acceptRanges), ("unicode.CaseRanges", laid_unicode_CaseRanges), ("unicode/utf8.first", laid_unicode_utf8_first)] }
def NotifyViewsSaid : Prop := notifyViewsRow.holds Tryz.pinned (OpenSpec.ofChange notifyViewsSpec)

/-- ITS FALSE NEIGHBOUR: 'it returns false'. Refute it at one input. -/
def notifyViewsWrong : ChangeSpec := { name := "notifyViews", fn := fun _ => fun
  | [d] => { results := [.lit (.bool false)], args := [d] }
  | _ => none }
def NotifyViewsWrongFalsely : Prop := notifyViewsRow.holds Tryz.pinned (OpenSpec.ofChange notifyViewsWrong)

/-- 'coldpluglaw30.NotifyTells': WHATEVER THE INPUT: true; the input reads as it did. -/
def notifyTellsSpec : ChangeSpec := { name := "notifyTells", fn := fun _ => fun
  | [d] => { results := [.lit (.bool true)], args := [d] }
  | _ => none }
def notifyTellsRow : OpenClaim := { program := "ytneghlianebffaagreatdoor", sum := "2853f4a3322fb94d88c887ce90a2ed9e1af0ac6c7f3cbb545b8801afad61ef28", func := "coldplug/coldpluglaw30.NotifyTells", spec := "notifyTells", inPlace := ["internal/abi.NoEscape", "internal/bytealg.MakeNoZero", "internal/bytealg.IndexByteString", "internal/bytealg.CountString", "internal/bytealg.IndexString", "internal/bytealg.abigen_runtime_cmpstring"], unfollowed := true, recurses := true, named := ["unicode/utf8.first", "unicode/utf8.acceptRanges", "unicode.CaseRanges", "internal/bytealg.MaxLen"], apart := false, laid := [("unicode/utf8.acceptRanges", laid_unicode_utf8_acceptRanges), ("unicode.CaseRanges", laid_unicode_CaseRanges), ("unicode/utf8.first", laid_unicode_utf8_first)] }
def NotifyTellsSaid : Prop := notifyTellsRow.holds Tryz.pinned (OpenSpec.ofChange notifyTellsSpec)

/-- ITS FALSE NEIGHBOUR: 'it returns false'. Refute it at one input. -/
def notifyTellsWrong : ChangeSpec := { name := "notifyTells", fn := fun _ => fun
  | [d] => { results := [.lit (.bool false)], args := [d] }
  | _ => none }
def NotifyTellsWrongFalsely : Prop := notifyTellsRow.holds Tryz.pinned (OpenSpec.ofChange notifyTellsWrong)

/- THE SECOND FORM. 'bulk': how many values and letters a reading holds, each counted each time it is reached (what is shared counts as often as it is met; a slice's spare places count too). A statement '..UptoSaid' is the law's where the arguments, and the package variables that the reading takes, are together of bulk at most 1048576: NARROWER than '..Said'. Prove '..Said' where nothing that the law and all that it calls make is longer than what came in: it says more and counts as full. Else prove '..UptoSaid'. A law counts once. -/
mutual
def uptoBulk {H : Type} : DataW H → Nat
  | .lit (.string bytes) => bytes.length + 1
  | .lit _ => 1
  | .nil => 1
  | .ptr d => uptoBulk d + 1
  | .slice elems spare => uptoBulkAll elems + uptoBulkAll spare + 1
  | .agg parts => uptoBulkAll parts + 1
  | .iface _ d => uptoBulk d + 1
  | .map entries => uptoBulkEntries entries + 1
  | .held _ => 1
def uptoBulkAll {H : Type} : List (DataW H) → Nat
  | [] => 0
  | d :: r => uptoBulk d + uptoBulkAll r
def uptoBulkEntries {H : Type} : List (Lit × DataW H) → Nat
  | [] => 0
  | x :: r => uptoBulkEntry x + uptoBulkEntries r
def uptoBulkEntry {H : Type} : Lit × DataW H → Nat
  | (.string bytes, d) => bytes.length + uptoBulk d + 1
  | (_, d) => uptoBulk d + 1
 end
def uptoSmall : (H : Type) → List (DataW H) → Bool := fun _ ds => decide (uptoBulkAll ds ≤ 1048576)
def OpenSpec.upto (s : _root_.Go.ChangeSpec) : _root_.Go.OpenSpec := { _root_.Go.OpenSpec.ofChange s with cond := some uptoSmall }

/-- 'coldpluglaw30.NotifyBehind', WHERE WHAT IT READS IS OF BULK AT MOST 1048576: true; the input reads as it did. -/
def notifyBehindUptoRow : OpenClaim := { program := "ytneghlianebffaagreatdoor", sum := "2853f4a3322fb94d88c887ce90a2ed9e1af0ac6c7f3cbb545b8801afad61ef28", func := "coldplug/coldpluglaw30.NotifyBehind", spec := "notifyBehind", inPlace := ["internal/abi.NoEscape", "internal/bytealg.MakeNoZero", "internal/bytealg.CountString", "internal/bytealg.IndexByteString", "internal/bytealg.IndexString"], unfollowed := true, recurses := true, named := ["unicode/utf8.first", "unicode/utf8.acceptRanges", "unicode.CaseRanges", "internal/bytealg.MaxLen"], apart := false, laid := [("unicode/utf8.acceptRanges", laid_unicode_utf8_acceptRanges), ("unicode.CaseRanges", laid_unicode_CaseRanges), ("unicode/utf8.first", laid_unicode_utf8_first)], narrowed := true }
def NotifyBehindUptoSaid : Prop := notifyBehindUptoRow.holds Tryz.pinned (OpenSpec.upto notifyBehindSpec)

/-- 'coldpluglaw30.NotifyFull', WHERE WHAT IT READS IS OF BULK AT MOST 1048576: true; the input reads as it did. -/
def notifyFullUptoRow : OpenClaim := { program := "ytneghlianebffaagreatdoor", sum := "2853f4a3322fb94d88c887ce90a2ed9e1af0ac6c7f3cbb545b8801afad61ef28", func := "coldplug/coldpluglaw30.NotifyFull", spec := "notifyFull", inPlace := ["internal/abi.NoEscape", "internal/bytealg.MakeNoZero", "internal/bytealg.CountString", "internal/bytealg.IndexByteString", "internal/bytealg.IndexString"], unfollowed := true, recurses := true, named := ["unicode/utf8.first", "unicode/utf8.acceptRanges", "unicode.CaseRanges", "internal/bytealg.MaxLen"], apart := false, laid := [("unicode/utf8.acceptRanges", laid_unicode_utf8_acceptRanges), ("unicode.CaseRanges", laid_unicode_CaseRanges), ("unicode/utf8.first", laid_unicode_utf8_first)], narrowed := true }
def NotifyFullUptoSaid : Prop := notifyFullUptoRow.holds Tryz.pinned (OpenSpec.upto notifyFullSpec)

/-- 'coldpluglaw30.NotifyParents', WHERE WHAT IT READS IS OF BULK AT MOST 1048576: true; the input reads as it did. -/
def notifyParentsUptoRow : OpenClaim := { program := "ytneghlianebffaagreatdoor", sum := "2853f4a3322fb94d88c887ce90a2ed9e1af0ac6c7f3cbb545b8801afad61ef28", func := "coldplug/coldpluglaw30.NotifyParents", spec := "notifyParents", inPlace := ["internal/abi.NoEscape", "internal/bytealg.MakeNoZero", "internal/bytealg.IndexByteString", "internal/bytealg.CountString", "internal/bytealg.IndexString", "internal/bytealg.abigen_runtime_cmpstring"], unfollowed := true, recurses := true, named := ["unicode/utf8.first", "unicode/utf8.acceptRanges", "unicode.CaseRanges", "internal/bytealg.MaxLen"], apart := false, laid := [("unicode/utf8.acceptRanges", laid_unicode_utf8_acceptRanges), ("unicode.CaseRanges", laid_unicode_CaseRanges), ("unicode/utf8.first", laid_unicode_utf8_first)], narrowed := true }
def NotifyParentsUptoSaid : Prop := notifyParentsUptoRow.holds Tryz.pinned (OpenSpec.upto notifyParentsSpec)

/-- 'coldpluglaw30.NotifyAlone', WHERE WHAT IT READS IS OF BULK AT MOST 1048576: true; the input reads as it did. -/
def notifyAloneUptoRow : OpenClaim := { program := "ytneghlianebffaagreatdoor", sum := "2853f4a3322fb94d88c887ce90a2ed9e1af0ac6c7f3cbb545b8801afad61ef28", func := "coldplug/coldpluglaw30.NotifyAlone", spec := "notifyAlone", inPlace := ["internal/abi.NoEscape", "internal/bytealg.MakeNoZero", "internal/bytealg.CountString", "internal/bytealg.IndexByteString", "internal/bytealg.IndexString", "internal/bytealg.abigen_runtime_cmpstring"], unfollowed := true, recurses := true, named := ["unicode/utf8.first", "unicode/utf8.acceptRanges", "unicode.CaseRanges", "internal/bytealg.MaxLen"], apart := false, laid := [("unicode/utf8.acceptRanges", laid_unicode_utf8_acceptRanges), ("unicode.CaseRanges", laid_unicode_CaseRanges), ("unicode/utf8.first", laid_unicode_utf8_first)], narrowed := true }
def NotifyAloneUptoSaid : Prop := notifyAloneUptoRow.holds Tryz.pinned (OpenSpec.upto notifyAloneSpec)

/-- 'coldpluglaw30.NotifyPlays', WHERE WHAT IT READS IS OF BULK AT MOST 1048576: true; the input reads as it did. -/
def notifyPlaysUptoRow : OpenClaim := { program := "ytneghlianebffaagreatdoor", sum := "2853f4a3322fb94d88c887ce90a2ed9e1af0ac6c7f3cbb545b8801afad61ef28", func := "coldplug/coldpluglaw30.NotifyPlays", spec := "notifyPlays", inPlace := ["internal/abi.NoEscape", "internal/bytealg.MakeNoZero", "internal/bytealg.CountString", "internal/bytealg.IndexByteString", "internal/bytealg.IndexString", "internal/bytealg.abigen_runtime_cmpstring"], unfollowed := true, recurses := true, named := ["unicode/utf8.first", "unicode/utf8.acceptRanges", "unicode.CaseRanges", "internal/bytealg.MaxLen"], apart := false, laid := [("unicode/utf8.acceptRanges", laid_unicode_utf8_acceptRanges), ("unicode.CaseRanges", laid_unicode_CaseRanges), ("unicode/utf8.first", laid_unicode_utf8_first)], narrowed := true }
def NotifyPlaysUptoSaid : Prop := notifyPlaysUptoRow.holds Tryz.pinned (OpenSpec.upto notifyPlaysSpec)

/-- 'coldpluglaw30.NotifyFilters', WHERE WHAT IT READS IS OF BULK AT MOST 1048576: true; the input reads as it did. -/
def notifyFiltersUptoRow : OpenClaim := { program := "ytneghlianebffaagreatdoor", sum := "2853f4a3322fb94d88c887ce90a2ed9e1af0ac6c7f3cbb545b8801afad61ef28", func := "coldplug/coldpluglaw30.NotifyFilters", spec := "notifyFilters", inPlace := ["internal/abi.NoEscape", "internal/bytealg.MakeNoZero", "internal/bytealg.CountString", "internal/bytealg.IndexByteString", "internal/bytealg.IndexString", "internal/bytealg.abigen_runtime_cmpstring"], unfollowed := true, recurses := true, named := ["unicode/utf8.first", "unicode/utf8.acceptRanges", "unicode.CaseRanges", "internal/bytealg.MaxLen"], apart := false, laid := [("unicode/utf8.acceptRanges", laid_unicode_utf8_acceptRanges), ("unicode.CaseRanges", laid_unicode_CaseRanges), ("unicode/utf8.first", laid_unicode_utf8_first)], narrowed := true }
def NotifyFiltersUptoSaid : Prop := notifyFiltersUptoRow.holds Tryz.pinned (OpenSpec.upto notifyFiltersSpec)

/-- 'coldpluglaw30.NotifyCopies', WHERE WHAT IT READS IS OF BULK AT MOST 1048576: true; the input reads as it did. -/
def notifyCopiesUptoRow : OpenClaim := { program := "ytneghlianebffaagreatdoor", sum := "2853f4a3322fb94d88c887ce90a2ed9e1af0ac6c7f3cbb545b8801afad61ef28", func := "coldplug/coldpluglaw30.NotifyCopies", spec := "notifyCopies", inPlace := ["internal/abi.NoEscape", "internal/bytealg.MakeNoZero", "internal/bytealg.IndexByteString", "internal/bytealg.CountString", "internal/bytealg.IndexString", "internal/bytealg.abigen_runtime_cmpstring", "maps.clone"], unfollowed := true, recurses := true, named := ["unicode/utf8.first", "unicode/utf8.acceptRanges", "unicode.CaseRanges", "internal/bytealg.MaxLen"], apart := false, laid := [("unicode/utf8.acceptRanges", laid_unicode_utf8_acceptRanges), ("unicode.CaseRanges", laid_unicode_CaseRanges), ("unicode/utf8.first", laid_unicode_utf8_first)], narrowed := true }
def NotifyCopiesUptoSaid : Prop := notifyCopiesUptoRow.holds Tryz.pinned (OpenSpec.upto notifyCopiesSpec)

/-- 'coldpluglaw30.NotifyViews', WHERE WHAT IT READS IS OF BULK AT MOST 1048576: true; the input reads as it did. -/
def notifyViewsUptoRow : OpenClaim := { program := "ytneghlianebffaagreatdoor", sum := "2853f4a3322fb94d88c887ce90a2ed9e1af0ac6c7f3cbb545b8801afad61ef28", func := "coldplug/coldpluglaw30.NotifyViews", spec := "notifyViews", inPlace := ["internal/abi.NoEscape", "internal/bytealg.MakeNoZero", "internal/bytealg.IndexByteString", "internal/bytealg.CountString", "internal/bytealg.IndexString", "internal/bytealg.abigen_runtime_cmpstring"], unfollowed := true, recurses := true, named := ["unicode/utf8.first", "unicode/utf8.acceptRanges", "unicode.CaseRanges", "internal/bytealg.MaxLen"], apart := false, laid := [("unicode/utf8.acceptRanges", laid_unicode_utf8_acceptRanges), ("unicode.CaseRanges", laid_unicode_CaseRanges), ("unicode/utf8.first", laid_unicode_utf8_first)], narrowed := true }
def NotifyViewsUptoSaid : Prop := notifyViewsUptoRow.holds Tryz.pinned (OpenSpec.upto notifyViewsSpec)

/-- 'coldpluglaw30.NotifyTells', WHERE WHAT IT READS IS OF BULK AT MOST 1048576: true; the input reads as it did. -/
def notifyTellsUptoRow : OpenClaim := { program := "ytneghlianebffaagreatdoor", sum := "2853f4a3322fb94d88c887ce90a2ed9e1af0ac6c7f3cbb545b8801afad61ef28", func := "coldplug/coldpluglaw30.NotifyTells", spec := "notifyTells", inPlace := ["internal/abi.NoEscape", "internal/bytealg.MakeNoZero", "internal/bytealg.IndexByteString", "internal/bytealg.CountString", "internal/bytealg.IndexString", "internal/bytealg.abigen_runtime_cmpstring"], unfollowed := true, recurses := true, named := ["unicode/utf8.first", "unicode/utf8.acceptRanges", "unicode.CaseRanges", "internal/bytealg.MaxLen"], apart := false, laid := [("unicode/utf8.acceptRanges", laid_unicode_utf8_acceptRanges), ("unicode.CaseRanges", laid_unicode_CaseRanges), ("unicode/utf8.first", laid_unicode_utf8_first)], narrowed := true }
def NotifyTellsUptoSaid : Prop := notifyTellsUptoRow.holds Tryz.pinned (OpenSpec.upto notifyTellsSpec)

end Rows
end Go.Proofs.YtneghlianebffaaGreatDoor
