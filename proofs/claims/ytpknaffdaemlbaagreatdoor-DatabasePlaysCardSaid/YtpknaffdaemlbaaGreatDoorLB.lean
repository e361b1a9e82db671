/- Closed facts of the program; what a row's lists give of its first world. -/
import Derived.Test.YtpknaffdaemlbaaGreatDoorKN
import Derived.Test.YtpknaffdaemlbaaGreatDoorCards
import Derived.Test.YtpknaffdaemlbaaGreatDoorTie
import Derived.ProofKit
import Derived.LaidMore
import Derived.Lay
import Derived.SevenTiedAt
import Derived.Stop.Joined
import Derived.Deep.DeepHandedRow
import Derived.Lib.LaidTab
namespace Go.Proofs.YtpknaffdaemlbaaGreatDoor
open Go Go.ChangeShapes Go.WideShapes Go.ChangeAt Go.RowKit Go.Ab
theorem own:ownKnob Tryz.prog.godebug = none:=by kernel_rfl
theorem QOl:laidOutB Tryz.prog = true:=by kernel_rfl

theorem QHq {H:Type} {enc:TypeId × Value → H} {C:Checked} {os:Os} {f:FuncId} {fn:Func} {s:OpenSpec} {conds:List PathCond} {apart:Bool} {laid:List (String × DataW Unit)} (w0:World) (args:Array Value) (hos:w0.os = os)
  (hsh:(w0.forCall (fun _ _=>0) ⟨#[],args,[]⟩).Shaped C.prog)
  (hok:Input.okWideB C.prog (w0.forCall (fun _ _=>0) ⟨#[],args,[]⟩) f ⟨#[],args,[]⟩ = true)
  (hrow:s.preRow enc C.prog fn conds apart laid (w0.forCall (fun _ _=>0) ⟨#[],args,[]⟩).memory args):
  ∃ (w:World) (tape:Tape) (i:Input),w.os = os ∧ (w.forCall tape i).Shaped C.prog ∧ i.vars = [] ∧ Input.okWide C.prog (w.forCall tape i) .any w.heap.size f i ∧
   s.preRow enc C.prog fn conds apart laid (w.forCall tape i).memory i.args ∧ ({}:Assume).holds C.prog (lone (Frame.enter C.prog f i.args .normal) [] (w.forCall tape i)):=
 ⟨w0,fun _ _=>0,⟨#[],args,[]⟩,hos,hsh,(Input.okWide_of_okWideB (base:=0) hok).1,(Input.okWide_of_okWideB hok).2,hrow,by
  simp only [Assume.holds]
  exact ⟨by simp,by simp,fun _=>Modest.zero,by simp,by simp⟩⟩

theorem QJQ {P:Program} {w:World} {n:String} {d:DataW Unit}:∀ {l:List (String × DataW Unit)} {ps:List MemPlace},DataW.LaidVars P w l ps → (n,d) ∈ l →
  ∃ g t cs fuel p,P.globalNamed n = some g ∧ (P.globals[g]?).map (·.type) = some t ∧ w.var? P n = some cs ∧ DataW.trod (fun _=>()) P w 0 (fun _=>true) false fuel t cs.toList = some (d,p)
 | [],_,_,h=>by cases h
 | (m,e) :: r,ps,h,hm=>by
  obtain ⟨g,t,cs,fuel,p,q,h1,h2,h3,h4,h5,_⟩:=h
  rcases List.mem_cons.1 hm with h6 | h6
  ·cases h6; exact ⟨g,t,cs,fuel,p,h1,h2,h3,h4⟩
  ·exact QJQ h5 h6

theorem QRU {w:World} {laid:List (String × DataW Unit)} {n:String} {k:IntKind} {zs:List Int} {g:Nat} {t e:TypeId} {m:Nat} (hL:laidMetH Tryz.prog laid w) (hf:(laid.filter fun x=>x.2.handleName?.isSome) = []) (hm:(n,Lib.tabData k zs) ∈ laid)
  (hg:Tryz.prog.globalNamed n = some g) (hty:(Tryz.prog.globals[g]?).map (·.type) = some t) (ht:Tryz.prog.underlying t = some (.array m e)) (he:Tryz.prog.underlying e = some (.int k)) (hce:Tryz.prog.cellsOf e = 1) (hct:Tryz.prog.cellsOf t = m):Lib.TabIs Tryz.prog w n k zs:=by
 unfold laidMetH at hL
 rw [hf] at hL
 obtain ⟨ps,hv,_⟩:=hL
 obtain ⟨g',t',cs,fuel,p,h1,h2,h3,h4⟩:=QJQ hv hm
 obtain rfl:=Option.some.inj (hg.symm.trans h1)
 obtain rfl:=Option.some.inj (hty.symm.trans h2)
 unfold Lib.TabIs
 rw [h3,← Lib.cells_of_tab ht he hce hct h4]

theorem QNA {H:Type} {enc:TypeId × Value → H} {P:Program} {w:World} {base:Nat} {sp:Nat → Bool} {fuel:Nat} {t:TypeId} {ms:Array (String × TypeId)} {l:List Value} {s:String} {d:DataW H} {p:List MemPlace} (ht:P.underlying t = some (.interface ms))
  (h:DataW.trod enc P w base sp false fuel t l = some (.iface s d,p)):∃ u v,l = [.iface u v]:=by
 cases fuel with
 | zero=>simp [DataW.trod] at h
 | succ fuel=>
  unfold DataW.trod at h
  rw [ht] at h
  match l,h with
  | [],h=>simp at h
  | x :: y :: r,h=>simp at h
  | [v],h=>cases v <;> first | exact ⟨_,_,rfl⟩ | simp at h
theorem QMQ {w:World} {laid:List (String × DataW Unit)} {n:String} {s:String} {d:DataW Unit} {g:Nat} {t:TypeId} {ms:Array (String × TypeId)} (hL:laidMetH Tryz.prog laid w) (hf:(laid.filter fun x=>x.2.handleName?.isSome) = []) (hm:(n,DataW.iface s d) ∈ laid)
  (hg:Tryz.prog.globalNamed n = some g) (hty:(Tryz.prog.globals[g]?).map (·.type) = some t) (ht:Tryz.prog.underlying t = some (.interface ms)):∃ u v,w.cell? ⟨g,0,none⟩ = some (.iface u v):=by
 unfold laidMetH at hL
 rw [hf] at hL
 obtain ⟨ps,hv,_⟩:=hL
 obtain ⟨g',t',cs,fuel,p,h1,h2,h3,h4⟩:=QJQ hv hm
 obtain rfl:=Option.some.inj (hg.symm.trans h1)
 obtain rfl:=Option.some.inj (hty.symm.trans h2)
 have key:=QNA ht h4
 obtain ⟨u,v,hk⟩:=key
 refine ⟨u,v,?_⟩
 have h5:=World.var?_cell (P:=Tryz.prog) hg h3 0
 rw [h5,← Array.getElem?_toList,hk]; rfl
theorem QOm:Tryz.prog.globalNamed "strconv.ErrSyntax" = some 2:=by kernel_rfl
theorem QQG:Tryz.prog.globalNamed "strconv.ErrRange" = some 3:=by kernel_rfl
theorem QKj:Tryz.prog.globalNamed "math/bits.deBruijn64tab" = some 6:=by kernel_rfl
def QOn:List Int:=[0,1,56,2,57,49,28,3,61,58,42,50,38,29,17,4,62,47,59,36,45,43,51,22,53,39,33,30,24,18,12,5,63,55,48,27,60,41,37,16,46,35,44,21,52,32,23,11,54,26,40,15,34,20,31,10,25,14,19,9,13,8,7,6]
set_option maxRecDepth 10000 in
theorem gok {w:World} {laid:List (String × DataW Unit)} (hL:laidMetH Tryz.prog laid w) (hf:(laid.filter fun x=>x.2.handleName?.isSome) = []) (hsh:w.ShapedOpen Tryz.prog)
  (h1:("internal/strconv.uint64pow10",Lib.tabData .u64 Lib.pow10Tab) ∈ laid) (h2:("strconv.ErrSyntax",Rows.laid_strconv_ErrSyntax) ∈ laid) (h3:("strconv.ErrRange",Rows.laid_strconv_ErrRange) ∈ laid)
  (h4:("math/bits.deBruijn64tab",Lib.tabData .u8 QOn) ∈ laid):GOk w:=by
 refine ⟨Go.Proofs.cell_of_shapedOpen_int (zero:=#[.int .i64 0]) (t:=3) hsh (of_decide_eq_true (by kernel_rfl)) (by kernel_rfl) rfl (by kernel_rfl) (by kernel_rfl) Tryz.underlying3,?_,?_,?_,?_⟩
 ·exact QRU (t:=237) (e:=145) (m:=20) hL hf h1 QLo (by kernel_rfl) (by kernel_rfl) (by kernel_rfl) (by kernel_rfl) (by kernel_rfl)
 ·exact QMQ (s := "*errors.errorString") hL hf h2 QOm (by kernel_rfl) Tryz.underlying106
 ·exact QMQ (s := "*errors.errorString") hL hf h3 QQG (by kernel_rfl) Tryz.underlying106
 ·exact (QRU (t:=265) (e:=5) (m:=64) hL hf h4 QKj (by kernel_rfl) (by kernel_rfl) (by kernel_rfl) (by kernel_rfl) (by kernel_rfl)).cell QKj 7 (by decide)
theorem QVw {w:World} (hsh:w.ShapedOpen Tryz.prog):9 ≤ w.heap.size:=by
 obtain ⟨cs,hh,_⟩:=hsh.1 8 (Array.replicate 32 (.int .u8 0)) 272 (of_decide_eq_true (by kernel_rfl)) (by kernel_rfl)
 exact (Array.getElem?_eq_some_iff.1 hh).1
theorem len1 {α:Type} {l:List α} (h:l.length = 1):∃ a,l = [a]:=by match l,h with | [a],_=>exact ⟨a,rfl⟩
theorem len4 {α:Type} {l:List α} (h:l.length = 4):∃ a b c d,l = [a,b,c,d]:=by match l,h with | [a,b,c,d],_=>exact ⟨a,b,c,d,rfl⟩
theorem QMR {H:Type} {P:Program} {n:Nat} {t:TypeId} {d:DataW H} {y:AV} (ht:P.underlying t = some .string) (h:RdV P (n + 1) t d y):∃ s,y = .str s ∧ s.length ≤ 9223372036854775807 ∧ d = .lit (.string s):=by
 obtain ⟨s,hd,h2,h3⟩:=QOW ht (QHh (fun fs e=>by rw [ht] at e; cases e) h)
 exact ⟨s,by simpa using h2,by simpa [maxLen] using h3,hd⟩
end Go.Proofs.YtpknaffdaemlbaaGreatDoor
