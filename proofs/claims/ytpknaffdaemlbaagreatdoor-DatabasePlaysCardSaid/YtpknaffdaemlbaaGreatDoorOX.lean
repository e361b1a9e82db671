/- Short names for the commonest operations of compiled functions. -/
import Derived.Test.YtpknaffdaemlbaaGreatDoorA5
namespace Go.Ab
open Go
abbrev ox (d:Nat) (x:AOp):QBR:=⟨some d,x,none⟩
abbrev ot (d:Nat) (x:AOp) (t:Nat):QBR:=⟨some d,x,some (t,true)⟩
abbrev of (d:Nat) (x:AOp) (t:Nat):QBR:=⟨some d,x,some (t,false)⟩
abbrev on (x:AOp):QBR:=⟨none,x,none⟩
abbrev mv (d s:Nat):QBR:=⟨some d,.mov (.t s),none⟩
abbrev iv (n:Int):Opd:=.v (.int .i64 n)
abbrev fc (f:Nat) (l:List Opd):AOp:=.call (.v (.fn (.func f) [] [])) l
abbrev ld (t:Nat):AOp:=.load none (.t t)
abbrev fa (i t:Nat):AOp:=.faddr i (.t t)
abbrev xt (t i:Nat):AOp:=.extract (.t t) i
abbrev b2 (o:BinOp) (s t:Nat):AOp:=.bin o (.t s) (.t t)
abbrev mb (b:Bool):AOp:=.mov (.v (.bool b))
abbrev sq (l:List QBR) (c:ACode):ACode:=.seq (.ops l) c
abbrev cd (t:Nat) (a b:ACode):ACode:=.cond (.t t) a b
abbrev b1 (o:BinOp) (s:Nat) (n:Int):AOp:=.bin o (.t s) (iv n)
abbrev t (n:Nat):Opd:=.t n
abbrev es:Opd:=.v (.str [])
abbrev bv (b:Bool):Opd:=.v (.bool b)
abbrev rz:List AV:=[.str [],.int .i64 0,.nils,.nils,.nils,.nils,.nils,.str [],.int .i64 0,.str [],.str [],.int .i64 0]
abbrev z1 (d i s:Nat):QBR:=⟨some d,.faddr i (.t s),none⟩
abbrev z2 (d s:Nat):QBR:=⟨some d,.load none (.t s),none⟩
abbrev z3 (d:Nat) (n:Int):QBR:=⟨some d,.mov (.v (.int .i64 n)),none⟩
abbrev z4 (d s g:Nat):QBR:=⟨some d,.mov (.t s),some (g,true)⟩
abbrev z5 (d s g:Nat):QBR:=⟨some d,.mov (.t s),some (g,false)⟩
abbrev z6 (d k a b:Nat):QBR:=⟨some d,.iaddr none k (.t a) (.t b),none⟩
abbrev z7 (d s i:Nat):QBR:=⟨some d,.extract (.t s) i,none⟩
abbrev z8 (d:Nat) (o:BinOp) (s:Nat) (n:Int):QBR:=⟨some d,.bin o (.t s) (.v (.int .i64 n)),none⟩
abbrev z9 (d:Nat) (o:BinOp) (s r:Nat):QBR:=⟨some d,.bin o (.t s) (.t r),none⟩
abbrev y1 (d k s:Nat):QBR:=⟨some d,.load (some k) (.t s),none⟩
abbrev y2 (d:Nat):QBR:=⟨some d,.mov (.v (.bool false)),none⟩
abbrev y3 (d a b:Nat):QBR:=⟨some d,.pick (.t a) (.t b) (.v (.bool false)),none⟩
abbrev y4 (d a b:Nat):QBR:=⟨some d,.pick (.t a) (.v (.bool true)) (.t b),none⟩
abbrev y5 (k a b:Nat):QBR:=⟨none,.store (some k) (.t a) (.t b),none⟩
abbrev y6 (a b:Nat):QBR:=⟨none,.store none (.t a) (.t b),none⟩
abbrev y7 (d f a:Nat):QBR:=⟨some d,.call (.v (.fn (.func f) [] [])) [.t a],none⟩
abbrev y8 (d f a b:Nat):QBR:=⟨some d,.call (.v (.fn (.func f) [] [])) [.t a,.t b],none⟩
abbrev y9 (d s:Nat):QBR:=⟨some d,.len .sl (.t s),none⟩
abbrev x1 (d i s g:Nat):QBR:=⟨some d,.faddr i (.t s),some (g,true)⟩
abbrev x2 (d s g:Nat):QBR:=⟨some d,.load none (.t s),some (g,true)⟩
abbrev x3 (d s:Nat):QBR:=⟨some d,.nilchk (.t s),none⟩
abbrev x4 (d k s:Nat):QBR:=⟨some d,.box k (.t s),none⟩
abbrev x5 (d s:Nat):QBR:=⟨some d,.un .not (.t s),none⟩
abbrev x6 (d k l m a b:Nat):QBR:=⟨some d,.append k l m (.t a) (.t b),none⟩
abbrev x7 (d k l s:Nat):QBR:=⟨some d,.bslice k l false [.t s],none⟩
end Go.Ab
