/- Closed facts of the program; what a row's lists give of its first world. -/
import Derived.Test.YtneghlianebffaaGreatDoorA6
import Derived.Shelf.Vars
import Derived.Test.YtneghlianebffaaGreatDoorC1
import Derived.Test.YtneghlianebffaaGreatDoorCards
import Derived.Test.YtneghlianebffaaGreatDoorTie
import Derived.ProofKit
import Derived.LaidMore
import Derived.Lay
import Derived.SevenTiedAt
import Derived.Stop.Joined
import Derived.Deep.DeepHandedRow
namespace Go.Proofs.YtneghlianebffaaGreatDoor
open Go Go.ChangeShapes Go.WideShapes Go.ChangeAt Go.RowKit Go.Ab
theorem own:ownKnob Tryz.prog.godebug = none:=by kernel_rfl
theorem QHM:laidOutB Tryz.prog = true:=by kernel_rfl

theorem QDL {H:Type} {enc:TypeId × Value → H} {C:Checked} {os:Os} {f:FuncId} {fn:Func} {s:OpenSpec} {conds:List PathCond} {apart:Bool} {laid:List (String × DataW Unit)} (w0:World) (args:Array Value) (hos:w0.os = os)
  (hsh:(w0.forCall (fun _ _=>0) ⟨#[],args,[]⟩).Shaped C.prog)
  (hok:Input.okWideB C.prog (w0.forCall (fun _ _=>0) ⟨#[],args,[]⟩) f ⟨#[],args,[]⟩ = true)
  (hrow:s.preRow enc C.prog fn conds apart laid (w0.forCall (fun _ _=>0) ⟨#[],args,[]⟩).memory args):
  ∃ (w:World) (tape:Tape) (i:Input),w.os = os ∧ (w.forCall tape i).Shaped C.prog ∧ i.vars = [] ∧ Input.okWide C.prog (w.forCall tape i) .any w.heap.size f i ∧
   s.preRow enc C.prog fn conds apart laid (w.forCall tape i).memory i.args ∧ ({}:Assume).holds C.prog (lone (Frame.enter C.prog f i.args .normal) [] (w.forCall tape i)):=
 ⟨w0,fun _ _=>0,⟨#[],args,[]⟩,hos,hsh,(Input.okWide_of_okWideB (base:=0) hok).1,(Input.okWide_of_okWideB hok).2,hrow,by
  simp only [Assume.holds]
  exact ⟨by simp,by simp,fun _=>Modest.zero,by simp,by simp⟩⟩

theorem gok {w:World} (hsh:w.ShapedOpen Tryz.prog):GOk w:=
 ⟨Go.Proofs.cell_of_shapedOpen_int (zero:=#[.int .i64 0]) (t:=3) hsh (of_decide_eq_true (by kernel_rfl)) (by kernel_rfl) rfl (by kernel_rfl) (by kernel_rfl) Tryz.underlying3,trivial⟩
theorem QOl {w:World} (hsh:w.ShapedOpen Tryz.prog):1 ≤ w.heap.size:=by
 obtain ⟨cs,hh,_⟩:=hsh.1 0 #[.int .i64 0] 3 (of_decide_eq_true (by kernel_rfl)) (by kernel_rfl)
 exact (Array.getElem?_eq_some_iff.1 hh).1
theorem QYy {α:Type} {l:List α} (h:l.length = 1):∃ a,l = [a]:=by match l,h with | [a],_=>exact ⟨a,rfl⟩
theorem len2 {α:Type} {l:List α} (h:l.length = 2):∃ a b,l = [a,b]:=by match l,h with | [a,b],_=>exact ⟨a,b,rfl⟩
theorem QSk {H:Type} {P:Program} {n:Nat} {t:TypeId} {d:DataW H} {y:AV} (ht:P.underlying t = some .string) (h:RdV P (n + 1) t d y):∃ s,y = .str s ∧ s.length ≤ 9223372036854775807 ∧ d = .lit (.string s):=by
 obtain ⟨s,hd,h2,h3⟩:=QYa ht (QLf (fun fs e=>by rw [ht] at e; cases e) h)
 exact ⟨s,by simpa using h2,by simpa [maxLen] using h3,hd⟩
end Go.Proofs.YtneghlianebffaaGreatDoor
