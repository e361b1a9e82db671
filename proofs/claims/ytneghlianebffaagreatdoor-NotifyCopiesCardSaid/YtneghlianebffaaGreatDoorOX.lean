/- Short names for the commonest operations of compiled functions. -/
import Derived.Test.YtneghlianebffaaGreatDoorA5
namespace Go.Ab
open Go
abbrev ox (d:Nat) (x:AOp):QD2:=⟨some d,x,none⟩
abbrev ot (d:Nat) (x:AOp) (t:Nat):QD2:=⟨some d,x,some (t,true)⟩
abbrev of (d:Nat) (x:AOp) (t:Nat):QD2:=⟨some d,x,some (t,false)⟩
abbrev on (x:AOp):QD2:=⟨none,x,none⟩
abbrev mv (d s:Nat):QD2:=⟨some d,.mov (.t s),none⟩
abbrev iv (n:Int):Opd:=.v (.int .i64 n)
abbrev fc (f:Nat) (l:List Opd):AOp:=.call (.v (.fn (.func f) [] [])) l
abbrev ld (t:Nat):AOp:=.load none (.t t)
abbrev fa (i t:Nat):AOp:=.faddr i (.t t)
abbrev xt (t i:Nat):AOp:=.extract (.t t) i
abbrev b2 (o:BinOp) (s t:Nat):AOp:=.bin o (.t s) (.t t)
abbrev mb (b:Bool):AOp:=.mov (.v (.bool b))
abbrev sq (l:List QD2) (c:ACode):ACode:=.seq (.ops l) c
abbrev cd (t:Nat) (a b:ACode):ACode:=.cond (.t t) a b
abbrev b1 (o:BinOp) (s:Nat) (n:Int):AOp:=.bin o (.t s) (iv n)
end Go.Ab
