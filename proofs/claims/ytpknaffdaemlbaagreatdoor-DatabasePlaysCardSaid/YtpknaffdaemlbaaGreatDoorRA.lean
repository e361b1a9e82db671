/- A layer of abstract values over the model, and what is proved with it: part RA. -/
import Derived.Test.YtpknaffdaemlbaaGreatDoorOX
import Derived.Test.YtpknaffdaemlbaaGreatDoorCX
import Derived.Test.YtpknaffdaemlbaaGreatDoorAA
import Derived.Test.YtpknaffdaemlbaaGreatDoorW8
set_option maxRecDepth 20000
set_option maxHeartbeats 4000000
namespace Go.Ab
open Go Go.Proofs
def c39:AFn:=⟨(sq [(ox 2 (.alloc 72 [.nils,.nils]))] (sq [(ox 3 (.alloc 72 [.nils,.nils]))] (.seq (sq [(z3 4 0)] (.block 0 (.loop (.seq (sq [(mv 5 4),(mv 6 0),(y9 7 6),(z9 8 .lss 5 7)] (cd 8 .skip (.exit 0))) (.seq (.block 1 (.seq (.draw [(z1 11 0 3),(z2 12 11),(y9 13 12),(z8 14 .lss 13 512),(mv 15 14),(of 16 (fa 0 3) 15),(of 17 (ld 16) 15),(z5 18 0 15),(z5 19 4 15),(of 20 (.iaddr none 2 (t 18) (t 19)) 15),(of 21 (fa 0 20) 15),(of 22 (ld 21) 15),(of 23 (fc 72 [(t 17),(t 22)]) 15),(y4 24 15 23)] [0,1,3,7,15,31,63,31,31,415,927,1951,4095,8191]) (cd 24 (.draw [(z1 25 0 3),(z2 26 25),(mv 27 0),(mv 28 4),(z6 29 2 27 28),(y1 30 2 29),(ox 31 (.build [(.str []),(.str []),(.bool false)] [(0,(2,(t 30)))])),(y8 32 73 26 31),(z1 33 0 3),(y6 33 32)] [0,1,0,0,12,28,60,127,255,511]) .skip))) (.ops [(mv 9 4),(z8 10 .add 9 1),(mv 4 10)])))))) (sq [(y1 34 2 3),(y5 2 2 34)] .ret)))),35,[(.cell 2 (some 2))]⟩
theorem c39_ok:QAE Tryz.prog [] 39 = some c39:=by kernel_rfl
def c72:AFn:=⟨(sq [(y2 4)] (.seq (sq [(z3 5 0)] (.block 0 (.loop (.seq (sq [(mv 6 5),(mv 7 0),(y9 8 7),(z9 9 .lss 6 8)] (cd 9 .skip (.exit 0))) (.seq (.block 1 (sq [(mv 12 0),(mv 13 5),(z6 14 2 12 13),(z1 15 0 14),(z2 16 15),(mv 17 1),(z9 18 .eql 16 17)] (cd 18 (sq [(ox 4 (mb true))] .ret) .skip))) (.ops [(mv 10 5),(z8 11 .add 10 1),(mv 5 11)])))))) (sq [(y2 4)] .ret))),19,[(.tmp 4)]⟩
theorem c72_ok:QAE Tryz.prog [] 72 = some c72:=by kernel_rfl
def c73:AFn:=⟨(sq [(x4 3 127 1),(ox 4 (.mov (.v .nils)))] (sq [(ox 5 (.mov (.v .nils)))] (sq [(z1 8 2 3),(z2 9 8),(mv 6 9)] (.seq (sq [(z3 7 0)] (.block 0 (.loop (.seq (sq [(mv 10 7),(mv 11 0),(y9 12 11),(z9 13 .lss 10 12)] (cd 13 .skip (.exit 0))) (.seq (.block 1 (.seq (.seq (.draw [(mv 16 6),(x5 17 16),(mv 18 17),(x1 19 0 3 18),(x1 20 0 19 18),(x2 21 20 18),(z4 22 0 18),(z4 23 7 18),(ot 24 (.iaddr none 2 (t 22) (t 23)) 18),(x1 25 0 24 18),(x2 26 25 18),(ot 27 (b2 .lss 21 26) 18),(y3 28 18 27)] [0,1,3,7,15,31,7,7,199,455,967,2047,4095]) (cd 28 (.ops [(mv 29 5),(z1 30 0 3),(y1 31 2 30),(x7 32 53 2 31),(x6 33 53 2 32 29 32),(mv 5 33),(ox 6 (mb true))]) .skip)) (.seq (.draw [(mv 34 0),(mv 35 7),(z6 36 2 34 35),(z1 37 0 36),(z2 38 37),(z1 39 0 3),(z1 40 0 39),(z2 41 40),(z9 42 .neq 38 41)] [0,0,3,7,15,0,32,96,255]) (cd 42 (.ops [(mv 43 5),(mv 44 0),(mv 45 7),(z6 46 2 44 45),(y1 47 2 46),(x7 48 53 2 47),(x6 49 53 2 32 43 48),(mv 5 49)]) .skip)))) (.ops [(mv 14 7),(z8 15 .add 14 1),(mv 7 15)])))))) (.seq (sq [(mv 50 6),(x5 51 50)] (cd 51 (.ops [(mv 52 5),(z1 53 0 3),(y1 54 2 53),(x7 55 53 2 54),(x6 56 53 2 32 52 55),(mv 5 56)]) .skip)) (sq [(mv 57 5),(mv 4 57)] .ret)))))),58,[(.tmp 4)]⟩
theorem c73_ok:QAE Tryz.prog [] 73 = some c73:=by kernel_rfl
def c74:AFn:=⟨(sq [(x4 1 72 0),(ox 2 (.mov (.v .nils)))] (sq [(ox 3 (.mov (.v .nils)))] (sq [(y1 10 2 1),(y7 11 76 10),(mv 4 11)] (.seq (sq [(z3 5 0)] (.block 0 (.loop (.seq (sq [(mv 12 5),(mv 13 4),(y9 14 13),(z9 15 .lss 12 14)] (cd 15 .skip (.exit 0))) (.seq (.block 1 (sq [(mv 19 4),(mv 20 5),(z6 21 2 19 20),(y1 22 2 21),(y7 23 118 22),(mv 18 23),(z7 24 18 0),(z7 25 18 1),(ox 6 (.alloc 34 rz)),(y5 12 6 24),(mv 7 25)] (sq [(mv 26 7)] (cd 26 (.ops [(mv 27 3),(y1 28 12 6),(x7 29 34 12 28),(x6 30 34 12 208 27 29),(mv 3 30)]) .skip)))) (.ops [(mv 16 5),(z8 17 .add 16 1),(mv 5 17)])))))) (.seq (sq [(mv 31 3),(y9 32 31),(z3 33 0)] (.block 2 (.loop (sq [(z9 34 .lss 33 32)] (.seq (cd 34 .skip (.exit 2)) (.seq (.block 3 (sq [(mv 35 33),(mv 8 35)] (sq [(mv 36 8),(mv 9 36)] (.block 4 (.loop (.seq (.seq (.draw [(mv 37 9),(z8 38 .gtr 37 0),(mv 39 38),(z4 40 3 39),(z4 41 9 39),(ot 42 (.iaddr none 12 (t 40) (t 41)) 39),(x1 43 0 42 39),(x2 44 43 39),(z4 45 3 39),(z4 46 9 39),(ot 47 (b1 .sub 46 1) 39),(ot 48 (.iaddr none 12 (t 45) (t 47)) 39),(x1 49 0 48 39),(x2 50 49 39),(ot 51 (fc 119 [(t 44),(t 50)]) 39),(ot 52 (b1 .lss 51 0) 39),(y3 53 39 52)] [0,1,3,7,7,31,63,127,7,7,519,1799,3847,7943,16383,32767,65535]) (cd 53 .skip (.exit 4))) (.seq (.block 5 (.draw [(mv 56 3),(mv 57 9),(mv 58 3),(mv 59 9),(z8 60 .sub 59 1),(mv 61 3),(mv 62 9),(z8 63 .sub 62 1),(z6 64 12 61 63),(y1 65 12 64),(mv 66 3),(mv 67 9),(z6 68 12 66 67),(y1 69 12 68),(z6 70 12 56 57),(y5 12 70 65),(z6 71 12 58 60),(y5 12 71 69)] [0,0,0,0,8,0,0,64,224,480,0,0,3072,7168,16355,32739,65535,131071])) (.ops [(mv 54 9),(z8 55 .sub 54 1),(mv 9 55)])))))))) (.ops [(z8 72 .add 33 1),(mv 33 72)]))))))) (sq [(mv 73 3),(mv 2 73)] .ret)))))),74,[(.tmp 2)]⟩
theorem c74_ok:QAE Tryz.prog [] 74 = some c74:=by kernel_rfl
def c75:AFn:=⟨(sq [(x4 1 72 0),(ox 2 (.mov (.v .nils)))] (sq [(ox 3 (.mov (.v .nils)))] (sq [(y1 8 2 1),(y7 9 76 8),(mv 4 9)] (.seq (sq [(z3 5 0)] (.block 0 (.loop (.seq (sq [(mv 10 5),(mv 11 4),(y9 12 11),(z9 13 .lss 10 12)] (cd 13 .skip (.exit 0))) (.seq (.block 1 (sq [(mv 17 4),(mv 18 5),(z6 19 2 17 18),(y1 20 2 19),(y7 21 118 20),(mv 16 21),(z7 22 16 0),(z7 23 16 1),(ox 6 (.alloc 34 rz)),(y5 12 6 22),(mv 7 23)] (sq [(mv 24 7),(x5 25 24)] (cd 25 (.ops [(mv 26 3),(mv 27 4),(mv 28 5),(z6 29 2 27 28),(z1 30 0 29),(z2 31 30),(x7 32 9 1 31),(x6 33 9 1 16 26 32),(mv 3 33)]) .skip)))) (.ops [(mv 14 5),(z8 15 .add 14 1),(mv 5 15)])))))) (sq [(mv 34 3),(mv 2 34)] .ret))))),35,[(.tmp 2)]⟩
theorem c75_ok:QAE Tryz.prog [] 75 = some c75:=by kernel_rfl
def c76:AFn:=⟨(sq [(x4 1 72 0),(ox 2 (.mov (.v .nils)))] (sq [(z1 5 0 1),(z2 6 5),(mv 3 6)] (.seq (sq [(z3 4 0)] (.block 0 (.loop (.seq (sq [(mv 7 4),(z1 8 1 1),(z2 9 8),(y9 10 9),(z9 11 .lss 7 10)] (cd 11 .skip (.exit 0))) (.seq (.block 1 (.ops [(mv 14 3),(z1 15 1 1),(z2 16 15),(mv 17 4),(z6 18 3 16 17),(y1 19 3 18),(y8 20 73 14 19),(mv 3 20)])) (.ops [(mv 12 4),(z8 13 .add 12 1),(mv 4 13)])))))) (sq [(mv 21 3),(mv 2 21)] .ret)))),22,[(.tmp 2)]⟩
theorem c76_ok:QAE Tryz.prog [] 76 = some c76:=by kernel_rfl
def c42:AFn:=⟨(sq [(x4 2 72 0),(ox 4 (.alloc 72 [.nils,.nils]))] (sq [(z1 7 0 2),(z2 8 7),(mv 5 8)] (.seq (sq [(z3 6 0)] (.block 0 (.loop (.seq (sq [(mv 9 6),(z1 10 1 2),(z2 11 10),(y9 12 11),(z9 13 .lss 9 12),(mv 14 13),(z4 15 6 14),(z4 16 1 14),(ot 17 (b2 .lss 15 16) 14),(y3 18 14 17)] (cd 18 .skip (.exit 0))) (.seq (.block 1 (.ops [(mv 21 5),(z1 22 1 2),(z2 23 22),(mv 24 6),(z6 25 3 23 24),(y1 26 3 25),(y8 27 73 21 26),(mv 5 27)])) (.ops [(mv 19 6),(z8 20 .add 19 1),(mv 6 20)])))))) (sq [(mv 28 5),(ox 29 (.build [.nils,.nils] [(0,(1,(t 28)))])),(y5 2 4 29)] .ret)))),30,[(.cell 4 (some 2))]⟩
theorem c42_ok:QAE Tryz.prog [] 42 = some c42:=by kernel_rfl
def c120:AFn:=⟨(sq [(x4 2 72 0),(x4 3 127 1),(ox 4 (.alloc 72 [.nils,.nils]))] (.seq (.draw [(z1 5 1 2),(z2 6 5),(ox 7 (.append 127 3 40 (.v .nils) (t 6))),(y1 8 3 3),(x7 9 127 3 8),(x6 10 127 3 40 7 9),(z1 11 1 2),(y6 11 10)] [0,1,3,0,8,31,63,127]) (sq [(y1 12 2 2),(y5 2 4 12)] .ret))),13,[(.cell 4 (some 2))]⟩
theorem c120_ok:QAE Tryz.prog [] 120 = some c120:=by kernel_rfl
def c81:AFn:=⟨(sq [(x4 1 72 0),(ox 2 (.alloc 72 [.nils,.nils]))] (sq [(y1 3 2 1),(z1 4 1 1),(z2 5 4),(y9 6 5),(y8 7 42 3 6),(y5 2 2 7)] .ret)),8,[(.cell 2 (some 2))]⟩
theorem c81_ok:QAE Tryz.prog [] 81 = some c81:=by kernel_rfl
def c118:AFn:=⟨(sq [(x4 1 53 0),(ox 2 (.alloc 34 rz)),(y2 3)] (sq [(z1 9 1 1),(z2 10 9),(y7 11 156 10),(mv 8 11),(z7 12 8 0),(z7 13 8 1),(ox 4 (.alloc 34 rz)),(y5 12 4 12),(mv 5 13)] (.seq (sq [(mv 14 5),(z8 15 .neq 14 0)] (cd 15 (sq [(y1 16 12 4),(y5 12 2 16),(y2 3)] .ret) .skip)) (sq [(z1 18 0 4),(z2 19 18),(y7 20 71 19),(mv 17 20),(z7 21 17 0),(z7 22 17 1),(mv 6 21),(mv 7 22)] (.seq (sq [(mv 23 6),(z1 24 0 1),(z2 25 24),(z9 26 .neq 23 25)] (cd 26 (sq [(ox 27 (.build rz [])),(y5 12 2 27),(y2 3)] .ret) .skip)) (sq [(y1 28 12 4),(y5 12 2 28),(ox 3 (mb true))] .ret)))))),29,[(.cell 2 (some 12)),(.tmp 3)]⟩
theorem c118_ok:QAE Tryz.prog [] 118 = some c118:=by kernel_rfl
def c78:AFn:=⟨(sq [(x4 2 72 0),(x4 3 34 1),(ox 4 (.alloc 72 [.nils,.nils])),(z3 5 0)] (sq [(y1 12 12 3),(y7 13 70 12),(mv 11 13),(z7 14 11 0),(z7 15 11 1),(mv 6 14),(mv 7 15)] (.seq (sq [(mv 16 7),(z8 17 .neq 16 0)] (cd 17 (sq [(y1 18 2 2),(y5 2 4 18),(z3 5 260)] .ret) .skip)) (sq [(z1 20 0 3),(z2 21 20),(y7 22 71 21),(mv 19 22),(z7 23 19 0),(z7 24 19 1),(mv 8 23),(mv 9 24)] (sq [(y1 25 2 2),(y7 26 76 25),(mv 10 26)] (.seq (sq [(mv 27 10),(y9 28 27),(z8 29 .geq 28 512),(mv 30 29),(z4 31 10 30),(z4 32 8 30),(ot 33 (fc 72 [(t 31),(t 32)]) 30),(ot 34 (.un .not (t 33)) 30),(y3 35 30 34)] (cd 35 (sq [(y1 36 2 2),(y5 2 4 36),(z3 5 261)] .ret) .skip)) (sq [(y1 37 2 2),(mv 38 8),(mv 39 6),(ox 40 (.build [(.str []),(.str [])] [(0,(1,(t 38))),(1,(1,(t 39)))])),(ox 41 (.build [(.str []),(.str []),(.bool false)] [(0,(2,(t 40)))])),(y8 42 120 37 41),(y5 2 4 42),(z3 5 0)] .ret))))))),43,[(.cell 4 (some 2)),(.tmp 5)]⟩
theorem c78_ok:QAE Tryz.prog [] 78 = some c78:=by kernel_rfl
def c79:AFn:=⟨(sq [(x4 2 72 0),(ox 4 (.alloc 72 [.nils,.nils])),(z3 5 0)] (sq [(mv 9 1),(y7 10 71 9),(mv 8 10),(z7 11 8 0),(z7 12 8 1),(mv 6 11),(mv 7 12)] (.seq (sq [(mv 13 7),(z8 14 .neq 13 0),(mv 15 14),(of 16 (.load (some 2) (t 2)) 15),(of 17 (fc 76 [(t 16)]) 15),(z5 18 6 15),(of 19 (fc 72 [(t 17),(t 18)]) 15),(of 20 (.un .not (t 19)) 15),(y4 21 15 20)] (cd 21 (sq [(y1 22 2 2),(y5 2 4 22),(z3 5 262)] .ret) .skip)) (sq [(y1 23 2 2),(mv 24 6),(ox 25 (.build [(.str []),(.str [])] [(0,(1,(t 24)))])),(ox 26 (.build [(.str []),(.str []),(.bool false)] [(0,(2,(t 25))),(2,(1,(bv true)))])),(y8 27 120 23 26),(y5 2 4 27),(z3 5 0)] .ret)))),28,[(.cell 4 (some 2)),(.tmp 5)]⟩
theorem c79_ok:QAE Tryz.prog [] 79 = some c79:=by kernel_rfl
def c80:AFn:=⟨(sq [(x4 2 72 0),(ox 4 (.alloc 72 [.nils,.nils])),(z3 5 0)] (sq [(y1 8 2 2),(y7 9 75 8),(mv 6 9)] (.seq (sq [(z3 7 0)] (.block 0 (.loop (.seq (sq [(mv 10 7),(mv 11 6),(y9 12 11),(z9 13 .lss 10 12)] (cd 13 .skip (.exit 0))) (.seq (.block 1 (sq [(mv 16 6),(mv 17 7),(z6 18 1 16 17),(z2 19 18),(mv 20 1),(z9 21 .eql 19 20)] (cd 21 (sq [(y1 22 2 2),(mv 23 1),(ox 24 (.build [(.str []),(.str [])] [(0,(1,(t 23)))])),(ox 25 (.build [(.str []),(.str []),(.bool false)] [(0,(2,(t 24))),(2,(1,(bv true)))])),(y8 26 120 22 25),(y5 2 4 26),(z3 5 0)] .ret) .skip))) (.ops [(mv 14 7),(z8 15 .add 14 1),(mv 7 15)])))))) (sq [(y1 27 2 2),(y5 2 4 27),(z3 5 262)] .ret)))),28,[(.cell 4 (some 2)),(.tmp 5)]⟩
theorem c80_ok:QAE Tryz.prog [] 80 = some c80:=by kernel_rfl
def c82:AFn:=⟨(sq [(x4 2 72 0),(ox 4 (.alloc 34 rz)),(y2 5)] (sq [(y1 8 2 2),(y7 9 74 8),(mv 6 9)] (.seq (sq [(z3 7 0)] (.block 0 (.loop (.seq (sq [(mv 10 7),(mv 11 6),(y9 12 11),(z9 13 .lss 10 12)] (cd 13 .skip (.exit 0))) (.seq (.block 1 (sq [(mv 16 6),(mv 17 7),(z6 18 12 16 17),(z1 19 0 18),(z2 20 19),(mv 21 1),(z9 22 .eql 20 21)] (cd 22 (sq [(mv 23 6),(mv 24 7),(z6 25 12 23 24),(y1 26 12 25),(y5 12 4 26),(ox 5 (mb true))] .ret) .skip))) (.ops [(mv 14 7),(z8 15 .add 14 1),(mv 7 15)])))))) (sq [(ox 27 (.build rz [])),(y5 12 4 27),(y2 5)] .ret)))),28,[(.cell 4 (some 12)),(.tmp 5)]⟩
theorem c82_ok:QAE Tryz.prog [] 82 = some c82:=by kernel_rfl
def c119:AFn:=⟨(sq [(z3 4 0)] (sq [(mv 5 0),(ox 6 (fc 140 [(t 5),(.v (.str [47]))])),(mv 7 1),(ox 8 (fc 140 [(t 7),(.v (.str [47]))])),(y8 9 157 6 8),(mv 4 9)] .ret)),10,[(.tmp 4)]⟩
theorem c119_ok:QAE Tryz.prog [] 119 = some c119:=by kernel_rfl
def c40:AFn:=⟨(sq [(x4 3 72 1),(y2 4)] (.seq (.draw [(mv 5 0),(y7 6 28 5),(y1 7 2 3),(y7 8 74 7),(y8 9 33 6 8),(mv 10 9),(z4 11 0 10),(ot 12 (fc 29 [(t 11)]) 10),(ot 13 (.load (some 2) (t 3)) 10),(ot 14 (fc 75 [(t 13)]) 10),(ot 15 (fc 35 [(t 12),(t 14)]) 10),(y3 16 10 15),(mv 17 16),(z4 18 0 17),(ot 19 (fc 24 [(t 18)]) 17),(ot 20 (.load (some 2) (t 3)) 17),(ot 21 (fc 76 [(t 20)]) 17),(ot 22 (fc 23 [(t 19),(t 21)]) 17),(y3 23 17 22),(mv 24 23),(z4 25 0 24),(ot 26 (fc 32 [(t 25)]) 24),(x1 27 1 3 24),(x2 28 27 24),(ot 29 (.len .sl (t 28)) 24),(ot 30 (b2 .eql 26 29) 24),(y3 31 24 30),(mv 4 31)] [0,1,0,7,15,31,63,127,63,511,1023,2047,4095,8191,16383,8191,65535,131071,262143,524287,1048575,2097151,1048575,5242879,13631487,33554431,67108863,134217727]) .ret)),32,[(.tmp 4)]⟩
theorem c40_ok:QAE Tryz.prog [] 40 = some c40:=by kernel_rfl
def c157:AFn:=⟨(sq [(z3 4 0)] (.seq (sq [(z3 5 0)] (.block 0 (.loop (.seq (sq [(mv 6 5),(mv 7 0),(y9 8 7),(z9 9 .lss 6 8),(mv 10 9),(z4 11 5 10),(z4 12 1 10),(ot 13 (.len .sl (t 12)) 10),(ot 14 (b2 .lss 11 13) 10),(y3 15 10 14)] (cd 15 .skip (.exit 0))) (.seq (.block 1 (.seq (.draw [(mv 18 0),(mv 19 5),(z6 20 1 18 19),(z2 21 20),(mv 22 1),(mv 23 5),(z6 24 1 22 23),(z2 25 24),(z9 26 .neq 21 25)] [0,0,3,7,0,0,48,112,255]) (cd 26 (.seq (.draw [(mv 27 0),(mv 28 5),(z6 29 1 27 28),(z2 30 29),(mv 31 1),(mv 32 5),(z6 33 1 31 32),(z2 34 33),(y8 35 192 30 34),(mv 4 35)] [0,0,3,7,0,0,48,112,255,511]) .ret) .skip))) (.ops [(mv 16 5),(z8 17 .add 16 1),(mv 5 17)])))))) (.seq (.block 2 (sq [(mv 37 0),(y9 38 37),(mv 39 1),(y9 40 39),(z9 41 .lss 38 40),(mv 36 41)] (cd 36 (sq [(z3 4 (-1))] .ret) (sq [(mv 43 0),(y9 44 43),(mv 45 1),(y9 46 45),(z9 47 .gtr 44 46),(mv 42 47)] (cd 42 (sq [(z3 4 1)] .ret) .skip))))) (sq [(z3 4 0)] .ret)))),48,[(.tmp 4)]⟩
theorem c157_ok:QAE Tryz.prog [] 157 = some c157:=by kernel_rfl
end Go.Ab
namespace Go.Ab
open Go Go.Proofs
abbrev Ent:=List UInt8 × List UInt8
def QDq (w:Wr):Bool → List Ent → List Ent
 | d,[]=>if d = true then [] else [(w.1,w.2.getD [])]
 | d,x :: r=>(if d = false ∧ w.1 < x.1 then [(w.1,w.2.getD [])] else []) ++ ((if x.1 = w.1 then [] else [x]) ++ QDq w (d || decide (w.1 < x.1)) r)
def QOo (w:Wr) (l:List Ent):List Ent:=QDq w w.2.isNone l
def QNB (l:List Ent):Prop:=l.Pairwise fun a b=>a.1 < b.1
theorem QHr (w:Wr) (y:Ent):∀ (d:Bool) (l:List Ent),QNB l → (y ∈ QDq w d l ↔ (y ∈ l ∧ y.1 ≠ w.1) ∨ (d = false ∧ y = (w.1,w.2.getD [])))
 | d,[],_=>by cases d <;> simp [QDq]
 | d,x :: r,h=>by
  unfold QNB at h
  rw [List.pairwise_cons] at h
  have ih:=fun d=>QHr w y d r h.2
  rw [QDq,List.mem_append,List.mem_append,ih]
  by_cases hx:x.1 = w.1
  ·have hlt:¬ w.1 < x.1:=by rw [hx]; exact List.lt_irrefl _
   rw [if_pos hx,if_neg (fun h=>hlt h.2)]
   simp only [List.not_mem_nil,false_or,hlt,decide_false,Bool.or_false,List.mem_cons]
   constructor
   ·rintro (⟨h1,h2⟩ | h1)
    ·exact .inl ⟨.inr h1,h2⟩
    ·exact .inr h1
   ·rintro (⟨h1 | h1,h2⟩ | h1)
    ·subst h1; exact absurd hx h2
    ·exact .inl ⟨h1,h2⟩
    ·exact .inr h1
  ·rw [if_neg hx]
   by_cases hlt:w.1 < x.1
   ·simp only [hlt,and_true,decide_true,Bool.or_true,Bool.true_eq_false,false_and,or_false,List.mem_cons]
    cases d
    ·simp only [if_true,List.mem_cons,List.not_mem_nil,or_false,true_and]
     constructor
     ·rintro (h1 | h1 | h1)
      ·exact .inr h1
      ·exact .inl ⟨.inl h1,h1 ▸ hx⟩
      ·exact .inl ⟨.inr h1.1,h1.2⟩
     ·rintro (⟨h1 | h1,h2⟩ | h1)
      ·exact .inr (.inl h1)
      ·exact .inr (.inr ⟨h1,h2⟩)
      ·exact .inl h1
    ·simp only [Bool.true_eq_false,if_false,List.not_mem_nil,or_false,false_or,false_and]
     constructor
     ·rintro (h1 | h1)
      ·exact ⟨.inl h1,h1 ▸ hx⟩
      ·exact ⟨.inr h1.1,h1.2⟩
     ·rintro ⟨h1 | h1,h2⟩
      ·exact .inl h1
      ·exact .inr ⟨h1,h2⟩
   ·simp only [hlt,and_false,if_false,decide_false,Bool.or_false,List.not_mem_nil,false_or,List.mem_cons,or_false]
    constructor
    ·rintro (h1 | ⟨h1,h2⟩ | h1)
     ·exact .inl ⟨.inl h1,h1 ▸ hx⟩
     ·exact .inl ⟨.inr h1,h2⟩
     ·exact .inr h1
    ·rintro (⟨h1 | h1,h2⟩ | h1)
     ·exact .inl h1
     ·exact .inr (.inl ⟨h1,h2⟩)
     ·exact .inr (.inr h1)
theorem QKk (w:Wr):∀ (d:Bool) (l:List Ent),QNB l → QNB (QDq w d l)
 | d,[],_=>by cases d <;> simp [QDq,QNB]
 | d,x :: r,h=>by
  have h0:=h
  unfold QNB at h
  rw [List.pairwise_cons] at h
  have ih:=fun d=>QKk w d r h.2
  have hm:=fun d y=>QHr w y d r h.2
  rw [QDq]
  unfold QNB
  by_cases hx:x.1 = w.1
  ·have hlt:¬ w.1 < x.1:=by rw [hx]; exact List.lt_irrefl _
   rw [if_pos hx,if_neg (fun h=>hlt h.2)]
   exact ih _
  ·rw [if_neg hx]
   by_cases hlt:w.1 < x.1
   ·have h3:List.Pairwise (fun a b:Ent=>a.1 < b.1) ([x] ++ QDq w true r):=by
     rw [List.singleton_append,List.pairwise_cons]
     refine ⟨fun y hy=>?_,ih _⟩
     rcases (hm true y).1 hy with h4 | h4
     ·exact h.1 y h4.1
     ·exact absurd h4.1 (by simp)
    simp only [hlt,and_true,decide_true,Bool.or_true]
    cases d
    ·rw [if_pos rfl,List.singleton_append,List.pairwise_cons]
     refine ⟨fun y hy=>?_,h3⟩
     rcases List.mem_append.1 hy with h4 | h4
     ·simp only [List.mem_singleton] at h4; subst h4; exact hlt
     ·rcases (hm true y).1 h4 with h5 | h5
      ·exact List.lt_trans hlt (h.1 y h5.1)
      ·exact absurd h5.1 (by simp)
    ·simpa using h3
   ·have hgt:x.1 < w.1:=by
     rcases List.le_iff_lt_or_eq.1 (List.not_lt.1 hlt) with h5 | h5
     ·exact h5
     ·exact absurd h5 hx
    simp only [hlt,and_false,if_false,decide_false,Bool.or_false,List.nil_append,List.singleton_append]
    rw [List.pairwise_cons]
    refine ⟨fun y hy=>?_,ih _⟩
    rcases (hm d y).1 hy with h4 | ⟨_,rfl⟩
    ·exact h.1 y h4.1
    ·exact hgt
theorem QFu {m:QAs} (ho:QAx m):QNB (QAn m):=by
 unfold QNB QAn
 rw [List.pairwise_map]
 have h1:(QFy (ksS m)).Pairwise fun a b=>leB a b = true:=List.pairwise_mergeSort (fun a b c h k=>by
  simp only [leB,decide_eq_true_eq] at h k ⊢; exact List.le_trans h k) (fun a b=>by
  simp only [leB,Bool.or_eq_true,decide_eq_true_eq]; exact List.le_total a b) _
 have h2:(QFy (ksS m)).Nodup:=(List.mergeSort_perm _ _).nodup_iff.2 (QCu ho)
 refine (h1.and h2).imp fun {a b} ⟨h,k⟩=>?_
 simp only [leB,decide_eq_true_eq] at h
 rcases List.le_iff_lt_or_eq.1 h with h5 | h5
 ·exact h5
 ·exact absurd h5 k
theorem QQH {l l':List Ent} (h1:QNB l) (h2:QNB l') (h:∀ x,x ∈ l ↔ x ∈ l'):l = l':=
 QLW (fun _a _b h k=>List.lt_irrefl _ (List.lt_trans h k)) h1 h2 h
theorem QJR {m:QAs} (ho:QAx m) (w:Wr):QAn (doW m w) = QOo w (QAn m):=by
 have hd:=QO6 ho w
 refine QQH (QFu hd) (QKk w _ _ (QFu ho)) fun ⟨k,t⟩=>?_
 show _ ↔ (k,t) ∈ QDq w w.2.isNone (QAn m)
 rw [QHr w _ _ _ (QFu ho),QEC hd,QEC ho,QFJ ho]
 obtain ⟨n,o⟩:=w
 cases o with
 | none=>
  simp only [Option.isNone_none,Bool.true_eq_false,false_and,or_false]
  by_cases h:n = k
  ·simp [h]
  ·have:¬ k = n:=fun e=>h e.symm
   simp [h,this]
 | some u=>
  simp only [Option.isNone_some,Option.getD_some,true_and,Prod.mk.injEq]
  by_cases h:n = k
  ·subst h; simp [eq_comm]
  ·have:¬ k = n:=fun e=>h e.symm
   simp [h,this]
end Go.Ab
namespace Go.Ab
open Go Go.Proofs
theorem QTA {b:Nat} (hb:b ≤ 10) (l:List UInt8):(QDi b l).natAbs ≤ 300 * 11 ^ l.length:=by
 have key:∀ (n:Nat) (l:List UInt8),l.length = n → (QDi b l).natAbs ≤ 300 * 11 ^ n:=by
  intro n
  induction n with
  | zero=>intro l h; rw [List.eq_nil_of_length_eq_zero h]; simp [QDi]
  | succ n ih=>
   intro l h
   obtain ⟨l',c,rfl⟩:∃ l' c,l = l' ++ [c]:=⟨l.dropLast,l.getLast (by intro e; subst e; simp at h),(List.dropLast_concat_getLast _).symm⟩
   rw [QDF]
   have h1:=ih l' (by simpa using h)
   have h2:c.toNat < 256:=c.toNat_lt
   have h3:1 ≤ 11 ^ n:=Nat.one_le_pow _ _ (by decide)
   have h4:(QDi b l' * (b:Int)).natAbs ≤ 300 * 11 ^ n * 10:=by
    rw [Int.natAbs_mul]
    exact Nat.mul_le_mul h1 (by simpa using hb)
   rw [Nat.pow_succ]
   omega
 exact key _ l rfl
theorem QOp {b:Nat} (hb:b ≤ 10) {l:List UInt8} (h:l.length ≤ 10):(QDi b l).natAbs ≤ 10000000000000:=by
 have h1:=QTA hb l
 have h2:11 ^ l.length ≤ 11 ^ 10:=Nat.pow_le_pow_right (by decide) h
 have h3:(11:Nat) ^ 10 = 25937424601:=by decide
 omega

theorem QHs (s:List UInt8) (b:Nat) (hb:b = 8 ∨ b = 10) (hl:s.length < 9223372036854775807):ACalls Tryz.prog 191 [.str s,.int .i64 b] [] (.int .i64 (QI4 b s)) []:=by
 have hb10:b ≤ 10:=by omega
 -- the loop over the digits
 refine QBw c191_ok rfl ?_
 unfold c191
 obtain ⟨t,ht⟩:∃ t,t = if s.take 1 = [45] then s.drop 1 else s:=⟨_,rfl⟩
 obtain ⟨g,hg⟩:∃ g:Int,g = if s.take 1 = [45] then -1 else 1:=⟨_,rfl⟩
 have hr:QI4 b s = g * (if t.length ≤ 10 then QDi b t else 0):=by rw [QI4,← ht,← hg]
 have hgb:g = -1 ∨ g = 1:=by rw [hg]; split <;> simp
 have htl:t.length ≤ s.length:=by rw [ht]; split <;> simp
 have e45:(45:UInt8).toNat = 45:=rfl
 rw [hr]
 refine QAL ⟨tmps 40 [(0,.str s),(1,.int .i64 b),(4,.int .i64 0)],[]⟩ (QAJ ?_) (QAL ⟨tmps 40 [(0,.str s),(1,.int .i64 b),(4,.int .i64 0),(5,.int .i64 1),(6,.int .i64 0)],[]⟩ (QAJ ?_)
  (QAL ⟨tmps 40 [(0,.str t),(1,.int .i64 b),(4,.int .i64 0),(5,.int .i64 g),(6,.int .i64 0)],[]⟩ (QAJ ?_) (QAJ ?_)))
 ·simp +decide -dsimp -implicitDefEqProofs [go_sem]
  refine QAH (by simp) ?_
  simp +decide -dsimp -implicitDefEqProofs [go_sem]
 ·simp +decide -dsimp -implicitDefEqProofs [go_sem]
  refine QAH (by simp) ?_
  simp +decide -dsimp -implicitDefEqProofs [go_sem]
 ·cases s with
  | nil=>
   have h1:t = []:=by rw [ht]; rfl
   have h2:g = 1:=by rw [hg]; rfl
   rw [h1,h2]
   simp +decide -dsimp -implicitDefEqProofs [go_sem]
   refine QAH (by simp) ?_
   simp +decide -dsimp -implicitDefEqProofs [go_sem]
  | cons c r=>
   by_cases h:c = 45
   ·subst h
    have h1:t = r:=by rw [ht]; simp
    have h2:g = -1:=by rw [hg]; simp
    rw [h1,h2]
    simp +decide -dsimp -implicitDefEqProofs [go_sem]
    refine QAH (by simp) ?_
    simp +decide -dsimp -implicitDefEqProofs [go_sem]
   ·have h1:t = c :: r:=by rw [ht]; simp [h]
    have h2:g = 1:=by rw [hg]; simp [h]
    have h3:¬ (c.toNat:Int) = 45:=fun e=>h (UInt8.toNat_inj.1 (by omega))
    rw [h1,h2]
    simp +decide -dsimp -implicitDefEqProofs [go_sem,h3]
    refine QAH (by simp) ?_
    simp +decide -dsimp -implicitDefEqProofs [go_sem]
 by_cases h10:t.length ≤ 10
 rotate_left
 ·have h10':¬ (t.length:Int) ≤ 10:=by omega
  rw [if_neg h10]
  have w0:IntKind.i64.wrap 0 = 0:=by decide
  have hpos:(0:Int) < t.length:=by omega
  have hpos2:0 < t.length:=by omega
  simp +decide -dsimp -implicitDefEqProofs [go_sem]
  refine QAR (S:=Unit) (fun _=>⟨tmps 40 [(0,.str t),(1,.int .i64 b),(4,.int .i64 0),(5,.int .i64 g),(6,.int .i64 0),(7,.int .i64 0)],[]⟩) (fun _=>0) (fun _=>True) () trivial (QAD (by simp) ?_) ?_
  ·simp +decide -dsimp -implicitDefEqProofs [go_sem]
  intro _ _
  simp +decide -dsimp -implicitDefEqProofs [go_sem,h10',hpos2,w0]
 rw [if_pos h10]
 have h10':(t.length:Int) ≤ 10:=by omega
 simp +decide -dsimp -implicitDefEqProofs [go_sem]
 refine QAR (S:=Nat) (fun i=>⟨tmps 40 [(0,.str t),(1,.int .i64 b),(4,.int .i64 0),(5,.int .i64 g),(6,.int .i64 (QDi b (t.take i))),(7,.int .i64 i)],[]⟩) (fun i=>t.length - i) (fun i=>i ≤ t.length) 0 (by simp) (QAD (by simp) ?_) ?_
 ·simp +decide -dsimp -implicitDefEqProofs [go_sem,QDi]
 intro i hi
 have b1:=QOp hb10 (l:=t.take i) (by simp; omega)
 by_cases h:i < t.length
 ·have w:IntKind.i64.wrap ((i:Int) + 1) = i + 1:=w64 (by omega) (by omega)
  have hc256:t[i].toNat < 256:=t[i].toNat_lt
  have b2:(QDi b (t.take i) * (b:Int)).natAbs ≤ 10000000000000 * 10:=by
   rw [Int.natAbs_mul]; exact Nat.mul_le_mul b1 (by simpa using hb10)
  have w1:IntKind.i64.wrap (QDi b (t.take i) * (b:Int)) = QDi b (t.take i) * (b:Int):=w64 (by omega) (by omega)
  have w2:IntKind.i64.wrap (t[i].toNat:Int) = t[i].toNat:=w64 (by omega) (by omega)
  have w3:IntKind.i64.wrap (QDi b (t.take i) * (b:Int) + t[i].toNat) = QDi b (t.take i) * (b:Int) + t[i].toNat:=w64 (by omega) (by omega)
  have w4:IntKind.i64.wrap (QDi b (t.take i) * (b:Int) + t[i].toNat - 48) = QDi b (t.take i) * (b:Int) + t[i].toNat - 48:=w64 (by omega) (by omega)
  have e:QDi b (t.take i) * (b:Int) + t[i].toNat - 48 = QDi b (t.take (i + 1)):=by
   rw [List.take_succ_eq_append_getElem h,QDF]; omega
  simp +decide -dsimp -implicitDefEqProofs [go_sem,h,h10',w,w1,w2,w3,w4]
  rw [e]
  refine QAI (i + 1) (by omega) (by omega) (QAD (by simp) ?_)
  simp +decide -dsimp -implicitDefEqProofs [go_sem]
 ·have e:i = t.length:=by omega
  subst e
  rw [List.take_length] at b1 ⊢
  have w1:IntKind.i64.wrap (g * QDi b t) = g * QDi b t:=by
   rcases hgb with rfl | rfl
   ·exact w64 (by omega) (by omega)
   ·exact w64 (by omega) (by omega)
  simp +decide -dsimp -implicitDefEqProofs [go_sem,w1]
end Go.Ab
namespace Go.Ab
open Go Go.Proofs
structure Bd (m i:Nat) (x:Rcd):Prop where
 path:x.path.length ≤ m
 props:x.props.length ≤ i
 vals:∀ p ∈ x.props,p.2.length ≤ m
 tags:x.tags.length ≤ i
 links:x.links.length ≤ i
 link:∀ y ∈ x.links,y.length ≤ m
 runs:x.run.length ≤ i
 run:∀ y ∈ x.run,y.length ≤ m
 loads:x.load.length ≤ i
 load:∀ y ∈ x.load,y.length ≤ m
theorem QLa {P:Rcd → Prop} {x:Rcd} {l:List UInt8} (h0:P x) (h1:P { x with path:=l.drop 2 }) (h2:P { x with index:=QI4 10 (l.drop 2) }) (h3:P { x with props:=x.props ++ [QDG (l.drop 2)] }) (h4:P { x with tags:=x.tags ++ [l.drop 2] }) (h5:P { x with links:=x.links ++ [l.drop 2] }) (h6:P { x with run:=x.run ++ [l.drop 2] }) (h7:P { x with load:=x.load ++ [l.drop 2] }) (h8:P { x with name:=l.drop 2 }) (h9:P { x with owner:=l.drop 2 }) (h10:P { x with group:=l.drop 2 }) (h11:P { x with prio:=QI4 10 (l.drop 2) }) (h12:P { x with mode:=QI4 8 (l.drop 2) }):P (QAc x l):=by
 by_cases g0:l.length < 2
 ·have e:QAc x l = x:=by simp [QAc,g0]
  rw [e]; exact h0
 by_cases g1:l.take 2 = [80,58]
 ·have e:QAc x l = { x with path:=l.drop 2 }:=by simp +decide [QAc,g0,g1]
  rw [e]; exact h1
 by_cases g2:l.take 2 = [73,58]
 ·have e:QAc x l = { x with index:=QI4 10 (l.drop 2) }:=by simp +decide [QAc,g0,g2]
  rw [e]; exact h2
 by_cases g3:l.take 2 = [69,58]
 ·have e:QAc x l = { x with props:=x.props ++ [QDG (l.drop 2)] }:=by simp +decide [QAc,g0,g3]
  rw [e]; exact h3
 by_cases g4:l.take 2 = [71,58]
 ·have e:QAc x l = { x with tags:=x.tags ++ [l.drop 2] }:=by simp +decide [QAc,g0,g4]
  rw [e]; exact h4
 by_cases g5:l.take 2 = [76,58]
 ·have e:QAc x l = { x with links:=x.links ++ [l.drop 2] }:=by simp +decide [QAc,g0,g5]
  rw [e]; exact h5
 by_cases g6:l.take 2 = [82,58]
 ·have e:QAc x l = { x with run:=x.run ++ [l.drop 2] }:=by simp +decide [QAc,g0,g6]
  rw [e]; exact h6
 by_cases g7:l.take 2 = [77,58]
 ·have e:QAc x l = { x with load:=x.load ++ [l.drop 2] }:=by simp +decide [QAc,g0,g7]
  rw [e]; exact h7
 by_cases g8:l.take 2 = [78,58]
 ·have e:QAc x l = { x with name:=l.drop 2 }:=by simp +decide [QAc,g0,g8]
  rw [e]; exact h8
 by_cases g9:l.take 2 = [79,58]
 ·have e:QAc x l = { x with owner:=l.drop 2 }:=by simp +decide [QAc,g0,g9]
  rw [e]; exact h9
 by_cases g10:l.take 2 = [81,58]
 ·have e:QAc x l = { x with group:=l.drop 2 }:=by simp +decide [QAc,g0,g10]
  rw [e]; exact h10
 by_cases g11:l.take 2 = [89,58]
 ·have e:QAc x l = { x with prio:=QI4 10 (l.drop 2) }:=by simp +decide [QAc,g0,g11]
  rw [e]; exact h11
 by_cases g12:l.take 2 = [88,58]
 ·have e:QAc x l = { x with mode:=QI4 8 (l.drop 2) }:=by simp +decide [QAc,g0,g12]
  rw [e]; exact h12
 have e:QAc x l = x:=by simp only [QAc,g0,g1,g2,g3,g4,g5,g6,g7,g8,g9,g10,g11,g12,if_false]
 rw [e]; exact h0
theorem Bd.step {m i:Nat} {x:Rcd} {l:List UInt8} (h:Bd m i x) (hl:l.length ≤ m):Bd m (i + 1) (QAc x l):=by
 obtain ⟨h1,h2,h3,h4,h5,h6,h7,h8,h9,h10⟩:=h
 have hd:(l.drop 2).length ≤ m:=by simp; omega
 have ha:(QDG (l.drop 2)).2.length ≤ m:=Nat.le_trans (QKA _).2 hd
 have app:∀ {L:List (List UInt8)},(∀ y ∈ L,y.length ≤ m) → ∀ y ∈ L ++ [l.drop 2],y.length ≤ m:=fun hL y hy=>by
  rcases List.mem_append.1 hy with hy | hy
  ·exact hL y hy
  ·rw [List.mem_singleton.1 hy]; exact hd
 have appA:∀ p ∈ x.props ++ [QDG (l.drop 2)],p.2.length ≤ m:=fun p hp=>by
  rcases List.mem_append.1 hp with hp | hp
  ·exact h3 p hp
  ·rw [List.mem_singleton.1 hp]; exact ha
 exact QLa (P:=Bd m (i + 1)) ⟨h1,Nat.le_succ_of_le h2,h3,Nat.le_succ_of_le h4,Nat.le_succ_of_le h5,h6,Nat.le_succ_of_le h7,h8,Nat.le_succ_of_le h9,h10⟩
  ⟨hd,Nat.le_succ_of_le h2,h3,Nat.le_succ_of_le h4,Nat.le_succ_of_le h5,h6,Nat.le_succ_of_le h7,h8,Nat.le_succ_of_le h9,h10⟩
  ⟨h1,Nat.le_succ_of_le h2,h3,Nat.le_succ_of_le h4,Nat.le_succ_of_le h5,h6,Nat.le_succ_of_le h7,h8,Nat.le_succ_of_le h9,h10⟩
  ⟨h1,by simp only [List.length_append,List.length_cons,List.length_nil]; omega,appA,Nat.le_succ_of_le h4,Nat.le_succ_of_le h5,h6,Nat.le_succ_of_le h7,h8,Nat.le_succ_of_le h9,h10⟩
  ⟨h1,Nat.le_succ_of_le h2,h3,by simp only [List.length_append,List.length_cons,List.length_nil]; omega,Nat.le_succ_of_le h5,h6,Nat.le_succ_of_le h7,h8,Nat.le_succ_of_le h9,h10⟩
  ⟨h1,Nat.le_succ_of_le h2,h3,Nat.le_succ_of_le h4,by simp only [List.length_append,List.length_cons,List.length_nil]; omega,app h6,Nat.le_succ_of_le h7,h8,Nat.le_succ_of_le h9,h10⟩
  ⟨h1,Nat.le_succ_of_le h2,h3,Nat.le_succ_of_le h4,Nat.le_succ_of_le h5,h6,by simp only [List.length_append,List.length_cons,List.length_nil]; omega,app h8,Nat.le_succ_of_le h9,h10⟩
  ⟨h1,Nat.le_succ_of_le h2,h3,Nat.le_succ_of_le h4,Nat.le_succ_of_le h5,h6,Nat.le_succ_of_le h7,h8,by simp only [List.length_append,List.length_cons,List.length_nil]; omega,app h10⟩
  ⟨h1,Nat.le_succ_of_le h2,h3,Nat.le_succ_of_le h4,Nat.le_succ_of_le h5,h6,Nat.le_succ_of_le h7,h8,Nat.le_succ_of_le h9,h10⟩
  ⟨h1,Nat.le_succ_of_le h2,h3,Nat.le_succ_of_le h4,Nat.le_succ_of_le h5,h6,Nat.le_succ_of_le h7,h8,Nat.le_succ_of_le h9,h10⟩
  ⟨h1,Nat.le_succ_of_le h2,h3,Nat.le_succ_of_le h4,Nat.le_succ_of_le h5,h6,Nat.le_succ_of_le h7,h8,Nat.le_succ_of_le h9,h10⟩
  ⟨h1,Nat.le_succ_of_le h2,h3,Nat.le_succ_of_le h4,Nat.le_succ_of_le h5,h6,Nat.le_succ_of_le h7,h8,Nat.le_succ_of_le h9,h10⟩
  ⟨h1,Nat.le_succ_of_le h2,h3,Nat.le_succ_of_le h4,Nat.le_succ_of_le h5,h6,Nat.le_succ_of_le h7,h8,Nat.le_succ_of_le h9,h10⟩
def QEw (x:Rcd):AObj:=.box 34 [.str x.path,.int .i64 x.index,.own 2 x.props.length,.own 3 x.tags.length,.own 4 x.links.length,.own 5 x.run.length,.own 6 x.load.length,.str x.name,.int .i64 x.prio,.str x.owner,.str x.group,.int .i64 x.mode]
def xH (x:Rcd):List AObj:=[.box 34 [.str [],.int .i64 0,.nils,.nils,.nils,.nils,.nils,.str [],.int .i64 0,.str [],.str [],.int .i64 0],QEw x,.reg 93 2 (x.props.map QBF),.reg 9 1 (x.tags.map QAf),.reg 9 1 (x.links.map QAf),.reg 9 1 (x.run.map QAf),.reg 9 1 (x.load.map QAf)]
theorem QFv (l:List (List UInt8)) (x:List UInt8):l.map QAf ++ [[AV.str x]] = (l ++ [x]).map QAf:=by simp [QAf]
theorem QOq (l:List (List UInt8 × List UInt8)) (p:List UInt8 × List UInt8):l.map QBF ++ [[AV.str p.1,AV.str p.2]] = (l ++ [p]).map QBF:=by simp [QBF]
theorem QOr (t:List UInt8):∃ b,QNL 61 t = .tup [.str (QDG t).1,.str (QDG t).2,.bool b]:=by
 cases hq:QKI 61 t <;> simp [QNL,QDG,hq]

theorem QOs (s:List UInt8) (hl:s.length < 50000000):ACalls Tryz.prog 156 [.str s] [] (QNI s) []:=by
 refine QBw c156_ok rfl ?_
 unfold c156
 have hsp:=QE8 s 10 (by omega)
 have hL1:=QBk s 10
 have hL2:∀ x ∈ QB9 s 10,x.length ≤ s.length:=fun x hx=>QEa hx
 obtain ⟨L,hL⟩:∃ L,L = QB9 s 10:=⟨_,rfl⟩
 rw [← hL] at hsp hL1 hL2
 obtain ⟨x,hx⟩:∃ x,x = L.foldl QAc QCR:=⟨_,rfl⟩
 have hback:∀ r,QAb r = true → QBJ r = s → x = r:=fun r hS he=>by
  have:=QI5 (QFD hS)
  rw [he,← QCq,← hL,← hx] at this
  exact this
 have hV:QNI s = if QAb x = true ∧ QBJ x = s then .tup [.agg (QAU x),.int .i64 0] else .tup [.agg (QAU QCR),.int .i64 251]:=by
  unfold QNI
  by_cases hd:QSJ s
  ·have hc:=hd.choose_spec
   have hxc:=hback _ hc.1 hc.2
   rw [dif_pos hd,if_pos ⟨hxc ▸ hc.1,hxc ▸ hc.2⟩,hxc]
  ·rw [dif_neg hd,if_neg fun h=>hd ⟨x,h⟩]
 have hbd:∀ i,i ≤ L.length → Bd s.length i ((L.take i).foldl QAc QCR):=by
  intro i
  induction i with
  | zero=>intro _; simp only [List.take_zero,List.foldl_nil]; exact ⟨by simp [QCR],by simp [QCR],by simp [QCR],by simp [QCR],by simp [QCR],by simp [QCR],by simp [QCR],by simp [QCR],by simp [QCR],by simp [QCR]⟩
  | succ i ih=>
   intro h
   rw [List.take_succ_eq_append_getElem (by omega),List.foldl_append]
   exact (ih (by omega)).step (hL2 _ (List.getElem_mem _))
 refine QAL ⟨tmps 125 [(0,.str s),(2,.ptr 0 0),(3,.int .i64 0)],[.box 34 [.str [],.int .i64 0,.nils,.nils,.nils,.nils,.nils,.str [],.int .i64 0,.str [],.str [],.int .i64 0]]⟩ (QAJ ?_) (QAL ⟨tmps 125 [(0,.str s),(2,.ptr 0 0),(3,.int .i64 0),(4,.ptr 1 0)],xH QCR⟩ (QAJ ?_)
  (QAL ⟨tmps 125 [(0,.str s),(2,.ptr 0 0),(3,.int .i64 0),(4,.ptr 1 0),(5,.imm (L.map QAf))],xH QCR⟩ (QAJ ?_)
  (QAL ⟨tmps 125 [(0,.str s),(2,.ptr 0 0),(3,.int .i64 0),(4,.ptr 1 0)],[.box 34 [.str [],.int .i64 0,.nils,.nils,.nils,.nils,.nils,.str [],.int .i64 0,.str [],.str [],.int .i64 0],.box 34 (QAU x)]⟩ (QAJ ?_) (QAJ ?_))))
 ·simp +decide -dsimp -implicitDefEqProofs [go_sem]
  refine QAH (by simp) ?_
  simp +decide -dsimp -implicitDefEqProofs [go_sem]
 ·simp +decide -dsimp -implicitDefEqProofs [go_sem]
  refine Wk.trans (Wk.nilB 1 2 93 2 rfl rfl (by simp)) (Wk.trans (Wk.nilB 1 3 9 1 rfl rfl (by simp)) (Wk.trans (Wk.nilB 1 4 9 1 rfl rfl (by simp)) (Wk.trans (Wk.nilB 1 5 9 1 rfl rfl (by simp)) (Wk.trans (Wk.nilB 1 6 9 1 rfl rfl (by simp)) (QAD (by simp) ?_)))))
  simp +decide -dsimp -implicitDefEqProofs [go_sem,xH,QEw,QCR]
 ·unfold xH QEw
  simp +decide -dsimp -implicitDefEqProofs [go_sem]
  refine QAA hsp rfl (by simp [go_sem]) ?_
  simp +decide -dsimp -implicitDefEqProofs [go_sem]
  refine QAH (by simp) ?_
  simp +decide -dsimp -implicitDefEqProofs [go_sem,QCR]
 ·simp +decide -dsimp -implicitDefEqProofs [go_sem]
  refine QAR (S:=Nat × Rcd) (fun t=>⟨tmps 125 [(0,.str s),(2,.ptr 0 0),(3,.int .i64 0),(4,.ptr 1 0),(5,.imm (L.map QAf)),(6,.int .i64 t.1)],xH t.2⟩) (fun t=>L.length - t.1)
   (fun t=>t.1 ≤ L.length ∧ t.2 = (L.take t.1).foldl QAc QCR) (0,QCR) (by simp) (QAD (by simp) ?_) ?_
  ·simp +decide -dsimp -implicitDefEqProofs [go_sem,xH,QEw,QCR]
  rintro ⟨i,y⟩ ⟨hi,hy⟩
  simp only at hi hy
  by_cases h:i < L.length
  rotate_left
  ·have e:i = L.length:=by omega
   subst e
   rw [List.take_length,← hx] at hy
   subst hy
   unfold xH QEw
   simp +decide -dsimp -implicitDefEqProofs [go_sem]
   refine QAH (by simp) ?_
   simp +decide -dsimp -implicitDefEqProofs [go_sem,QAU]
  have hB:=hy ▸ hbd i hi
  have w:IntKind.i64.wrap ((i:Int) + 1) = i + 1:=w64 (by omega) (by omega)
  have hstep:QAc y L[i] = (L.take (i + 1)).foldl QAc QCR:=by
   rw [List.take_succ_eq_append_getElem h,List.foldl_append,← hy]; rfl
  have hlen:=hL2 _ (List.getElem_mem h)
  have hB1:=hB.props; have hB2:=hB.tags; have hB3:=hB.links; have hB4:=hB.runs; have hB5:=hB.loads
  have nx:∀ {T:List AV} {H:List AObj} {k:Nat} {u},(z:Rcd) → QAc y L[i] = z → Wk 0 ⟨T,H⟩ ⟨tmps 125 [(0,.str s),(2,.ptr 0 0),(3,.int .i64 0),(4,.ptr 1 0),(5,.imm (L.map QAf)),(6,.int .i64 ((i + 1:Nat):Int))],xH z⟩ →
    QQB (S:=Nat × Rcd) 0 (fun t=>⟨tmps 125 [(0,.str s),(2,.ptr 0 0),(3,.int .i64 0),(4,.ptr 1 0),(5,.imm (L.map QAf)),(6,.int .i64 t.1)],xH t.2⟩) (fun t=>L.length - t.1) (fun t=>t.1 ≤ L.length ∧ t.2 = (L.take t.1).foldl QAc QCR) (i,y) T H u:=by
   intro T H k u z hz hw
   exact QAI (i + 1,z) ⟨by show i + 1 ≤ _; omega,hz ▸ hstep⟩ (by show _ - (i + 1) < _ - i; omega) hw
  by_cases h2:L[i].length < 2
  ·have h2':(L[i].length:Int) < 2:=by omega
   unfold xH QEw
   simp +decide -dsimp -implicitDefEqProofs [go_sem,h,h2',w]
   refine nx (k:=0) y (by simp [QAc,h2]) (QAD (by simp) ?_)
   simp +decide -dsimp -implicitDefEqProofs [go_sem,xH,QEw]
  have h2':¬ (L[i].length:Int) < 2:=by omega
  have h2n:2 ≤ L[i].length:=by omega
  by_cases k1:L[i].take 2 = [80,58]
  ·have hst:QAc y L[i] = { y with path:=L[i].drop 2 }:=by simp +decide [QAc,h2,k1]
   unfold xH QEw
   simp +decide -dsimp -implicitDefEqProofs [go_sem,h,h2',h2n,k1,w]
   refine nx (k:=0) _ hst (QAD (by simp) ?_)
   simp +decide -dsimp -implicitDefEqProofs [go_sem,xH,QEw]
  by_cases k2:L[i].take 2 = [73,58]
  ·have hst:QAc y L[i] = { y with index:=QI4 10 (L[i].drop 2) }:=by simp +decide [QAc,h2,k2]
   unfold xH QEw
   simp +decide -dsimp -implicitDefEqProofs [go_sem,h,h2',h2n,k2]
   refine QAA (QHs (L[i].drop 2) 10 (by decide) (by simp; omega)) rfl rfl ?_
   simp +decide -dsimp -implicitDefEqProofs [go_sem,w]
   refine nx (k:=0) _ hst (QAD (by simp) ?_)
   simp +decide -dsimp -implicitDefEqProofs [go_sem,xH,QEw]
  by_cases k3:L[i].take 2 = [69,58]
  ·have hst:QAc y L[i] = { y with props:=y.props ++ [QDG (L[i].drop 2)] }:=by simp +decide [QAc,h2,k3]
   unfold xH QEw
   simp +decide -dsimp -implicitDefEqProofs [go_sem,h,h2',h2n,k3]
   obtain ⟨b,eA⟩:=QOr (L[i].drop 2)
   have hcut:=QRe (L[i].drop 2) 61 (by simp; omega)
   rw [eA] at hcut
   refine QAA hcut rfl (by simp [go_sem]) ?_
   simp +decide -dsimp -implicitDefEqProofs [go_sem,w,maxLen]
   refine ⟨⟨by omega,by omega⟩,?_⟩
   rw [QOq]
   refine nx (k:=0) _ hst (QAD (by simp) ?_)
   simp +decide -dsimp -implicitDefEqProofs [go_sem,xH,QEw,QBF]
  by_cases k4:L[i].take 2 = [71,58]
  ·have hst:QAc y L[i] = { y with tags:=y.tags ++ [L[i].drop 2] }:=by simp +decide [QAc,h2,k4]
   unfold xH QEw
   simp +decide -dsimp -implicitDefEqProofs [go_sem,h,h2',h2n,k4,w,maxLen]
   refine ⟨⟨by omega,by omega⟩,?_⟩
   rw [QFv]
   refine nx (k:=0) _ hst (QAD (by simp) ?_)
   simp +decide -dsimp -implicitDefEqProofs [go_sem,xH,QEw,QC5]
  by_cases k5:L[i].take 2 = [76,58]
  ·have hst:QAc y L[i] = { y with links:=y.links ++ [L[i].drop 2] }:=by simp +decide [QAc,h2,k5]
   unfold xH QEw
   simp +decide -dsimp -implicitDefEqProofs [go_sem,h,h2',h2n,k5,w,maxLen]
   refine ⟨⟨by omega,by omega⟩,?_⟩
   rw [QFv]
   refine nx (k:=0) _ hst (QAD (by simp) ?_)
   simp +decide -dsimp -implicitDefEqProofs [go_sem,xH,QEw,QC5]
  by_cases k6:L[i].take 2 = [82,58]
  ·have hst:QAc y L[i] = { y with run:=y.run ++ [L[i].drop 2] }:=by simp +decide [QAc,h2,k6]
   unfold xH QEw
   simp +decide -dsimp -implicitDefEqProofs [go_sem,h,h2',h2n,k6,w,maxLen]
   refine ⟨⟨by omega,by omega⟩,?_⟩
   rw [QFv]
   refine nx (k:=0) _ hst (QAD (by simp) ?_)
   simp +decide -dsimp -implicitDefEqProofs [go_sem,xH,QEw,QC5]
  by_cases k7:L[i].take 2 = [77,58]
  ·have hst:QAc y L[i] = { y with load:=y.load ++ [L[i].drop 2] }:=by simp +decide [QAc,h2,k7]
   unfold xH QEw
   simp +decide -dsimp -implicitDefEqProofs [go_sem,h,h2',h2n,k7,w,maxLen]
   refine ⟨⟨by omega,by omega⟩,?_⟩
   rw [QFv]
   refine nx (k:=0) _ hst (QAD (by simp) ?_)
   simp +decide -dsimp -implicitDefEqProofs [go_sem,xH,QEw,QC5]
  by_cases k8:L[i].take 2 = [78,58]
  ·have hst:QAc y L[i] = { y with name:=L[i].drop 2 }:=by simp +decide [QAc,h2,k8]
   unfold xH QEw
   simp +decide -dsimp -implicitDefEqProofs [go_sem,h,h2',h2n,k8,w]
   refine nx (k:=0) _ hst (QAD (by simp) ?_)
   simp +decide -dsimp -implicitDefEqProofs [go_sem,xH,QEw]
  by_cases k9:L[i].take 2 = [79,58]
  ·have hst:QAc y L[i] = { y with owner:=L[i].drop 2 }:=by simp +decide [QAc,h2,k9]
   unfold xH QEw
   simp +decide -dsimp -implicitDefEqProofs [go_sem,h,h2',h2n,k9,w]
   refine nx (k:=0) _ hst (QAD (by simp) ?_)
   simp +decide -dsimp -implicitDefEqProofs [go_sem,xH,QEw]
  by_cases k10:L[i].take 2 = [81,58]
  ·have hst:QAc y L[i] = { y with group:=L[i].drop 2 }:=by simp +decide [QAc,h2,k10]
   unfold xH QEw
   simp +decide -dsimp -implicitDefEqProofs [go_sem,h,h2',h2n,k10,w]
   refine nx (k:=0) _ hst (QAD (by simp) ?_)
   simp +decide -dsimp -implicitDefEqProofs [go_sem,xH,QEw]
  by_cases k11:L[i].take 2 = [89,58]
  ·have hst:QAc y L[i] = { y with prio:=QI4 10 (L[i].drop 2) }:=by simp +decide [QAc,h2,k11]
   unfold xH QEw
   simp +decide -dsimp -implicitDefEqProofs [go_sem,h,h2',h2n,k11]
   refine QAA (QHs (L[i].drop 2) 10 (by decide) (by simp; omega)) rfl rfl ?_
   simp +decide -dsimp -implicitDefEqProofs [go_sem,w]
   refine nx (k:=0) _ hst (QAD (by simp) ?_)
   simp +decide -dsimp -implicitDefEqProofs [go_sem,xH,QEw]
  by_cases k12:L[i].take 2 = [88,58]
  ·have hst:QAc y L[i] = { y with mode:=QI4 8 (L[i].drop 2) }:=by simp +decide [QAc,h2,k12]
   unfold xH QEw
   simp +decide -dsimp -implicitDefEqProofs [go_sem,h,h2',h2n,k12]
   refine QAA (QHs (L[i].drop 2) 8 (by decide) (by simp; omega)) rfl rfl ?_
   simp +decide -dsimp -implicitDefEqProofs [go_sem,w]
   refine nx (k:=0) _ hst (QAD (by simp) ?_)
   simp +decide -dsimp -implicitDefEqProofs [go_sem,xH,QEw]
  have hst:QAc y L[i] = y:=by simp only [QAc,h2,k1,k2,k3,k4,k5,k6,k7,k8,k9,k10,k11,k12,if_false]
  unfold xH QEw
  simp +decide -dsimp -implicitDefEqProofs [go_sem,h,h2',h2n,k1,k2,k3,k4,k5,k6,k7,k8,k9,k10,k11,k12,w]
  refine nx (k:=0) _ hst (QAD (by simp) ?_)
  simp +decide -dsimp -implicitDefEqProofs [go_sem,xH,QEw]
 have hB:=hbd L.length (Nat.le_refl _)
 rw [List.take_length,← hx] at hB
 have hfew:Few x:=by
  have:=hB.path; have:=hB.props; have:=hB.tags; have:=hB.links; have:=hB.runs; have:=hB.loads
  exact ⟨by omega,by omega,by omega,fun p hp=>by have:=hB.vals p hp; omega,by omega,fun p hp=>by have:=hB.link p hp; omega,by omega,fun p hp=>by have:=hB.run p hp; omega,by omega,fun p hp=>by have:=hB.load p hp; omega⟩
 have c1:=QMZ x hfew
 rw [hV]
 by_cases hS:QAb x = true
 ·have c2:=QQt x hS
  unfold QAU at c1 c2 ⊢
  by_cases he:QBJ x = s
  ·rw [if_pos ⟨hS,he⟩]
   simp +decide -dsimp -implicitDefEqProofs [go_sem]
   refine QAA c1 (by simp [go_sem]) rfl ?_
   simp +decide -dsimp -implicitDefEqProofs [go_sem,hS]
   refine QAA c2 (by simp [go_sem]) rfl ?_
   simp +decide -dsimp -implicitDefEqProofs [go_sem,he]
  ·rw [if_neg fun h=>he h.2]
   simp +decide -dsimp -implicitDefEqProofs [go_sem]
   refine QAA c1 (by simp [go_sem]) rfl ?_
   simp +decide -dsimp -implicitDefEqProofs [go_sem,hS]
   refine QAA c2 (by simp [go_sem]) rfl ?_
   simp +decide -dsimp -implicitDefEqProofs [go_sem,he,QCR]
 ·rw [if_neg fun h=>hS h.1]
  unfold QAU at c1 ⊢
  simp +decide -dsimp -implicitDefEqProofs [go_sem]
  refine QAA c1 (by simp [go_sem]) rfl ?_
  simp +decide -dsimp -implicitDefEqProofs [go_sem,hS,QCR]
end Go.Ab
namespace Go.Ab
open Go Go.Proofs
def wrR (w:Wr):List AV:=[.str w.1,.str (w.2.getD []),.bool w.2.isNone]
theorem QCt (k:Nat) (l:List Wr):QAV k (l.map wrR) = true:=QAa fun _ _=>rfl
def QOt (l:List Ent) (n:List UInt8):Bool:=l.any fun e=>decide (e.1 = n)
theorem QRV (l:List Ent) (n:List UInt8) (hn:l.length ≤ 1000000):ACalls Tryz.prog 72 [.imm (l.map QBM),.str n] [] (.bool (QOt l n)) []:=by
 have hec:=QAY
 refine QAF c72_ok rfl ?_
 unfold c72
 simp +decide -dsimp -implicitDefEqProofs [go_sem]
 refine QAR (S:=Nat) (fun i=>⟨tmps 19 [(0,.imm (l.map QBM)),(1,.str n),(5,.int .i64 i)],[]⟩) (fun i=>l.length - i) (fun i=>i ≤ l.length ∧ QOt l n = QOt (l.drop i) n) 0 (by simp) (QAD (by simp) ?_) ?_
 ·simp +decide -dsimp -implicitDefEqProofs [go_sem,hec]
 rintro i ⟨hi,hb⟩
 by_cases h:i < l.length
 ·have w:IntKind.i64.wrap ((i:Int) + 1) = i + 1:=w64 (by omega) (by omega)
  have hd:l.drop i = l[i] :: l.drop (i + 1):=List.drop_eq_getElem_cons h
  rw [hd] at hb
  by_cases he:l[i].1 = n
  ·have:QOt l n = true:=by rw [hb]; unfold QOt; rw [List.any_cons,decide_eq_true he]; rfl
   simp +decide -dsimp -implicitDefEqProofs [go_sem,h,QBM,he,this]
  ·have hb2:QOt l n = QOt (l.drop (i + 1)) n:=by rw [hb]; unfold QOt; rw [List.any_cons,decide_eq_false he]; rfl
   simp +decide -dsimp -implicitDefEqProofs [go_sem,h,QBM,he,w]
   refine QAI (i + 1) ⟨by omega,hb2⟩ (by show l.length - (i + 1) < l.length - i; omega) (QAD (by simp) ?_)
   simp +decide -dsimp -implicitDefEqProofs [go_sem,hec]
 ·have e:i = l.length:=by omega
  subst e
  rw [List.drop_length] at hb
  have:QOt l n = false:=by rw [hb]; rfl
  simp +decide -dsimp -implicitDefEqProofs [go_sem,this]
def QHt (w:Wr) (l:List Ent):Bool:=w.2.isNone || l.any fun x=>decide (w.1 < x.1)
def QIA (w:Wr):Bool → List Ent → List Ent
 | _,[]=>[]
 | d,x :: r=>(if d = false ∧ w.1 < x.1 then [(w.1,w.2.getD [])] else []) ++ ((if x.1 = w.1 then [] else [x]) ++ QIA w (d || decide (w.1 < x.1)) r)
theorem QKl (w:Wr):∀ (d:Bool) (l:List Ent) (x:Ent),QIA w d (l ++ [x]) = QIA w d l ++ ((if (d || l.any fun x=>decide (w.1 < x.1)) = false ∧ w.1 < x.1 then [(w.1,w.2.getD [])] else []) ++ (if x.1 = w.1 then [] else [x]))
 | d,[],x=>by simp [QIA]
 | d,y :: l,x=>by
  rw [List.cons_append,QIA,QKl w _ l x,QIA]
  simp only [List.append_assoc,List.any_cons,Bool.or_assoc]
  congr
theorem QMS (w:Wr):∀ (d:Bool) (l:List Ent),QDq w d l = QIA w d l ++ (if (d || l.any fun x=>decide (w.1 < x.1)) = true then [] else [(w.1,w.2.getD [])])
 | d,[]=>by cases d <;> simp [QDq,QIA]
 | d,y :: l=>by
  rw [QDq,QMS w _ l,QIA]
  simp only [List.append_assoc,List.any_cons,Bool.or_assoc]
  congr
theorem QJS (w:Wr):∀ (d:Bool) (l:List Ent),(QIA w d l).length ≤ 2 * l.length
 | d,[]=>by simp [QIA]
 | d,y :: l=>by
  have:=QJS w (d || decide (w.1 < y.1)) l
  rw [QIA]
  simp only [List.length_append,List.length_cons]
  split <;> split <;> simp <;> omega
theorem QLb (l:List Ent) (w:Wr) (hn:l.length ≤ 100000):ACalls Tryz.prog 73 [.imm (l.map QBM),.agg (wrR w)] [] (.imm ((QOo w l).map QBM)) []:=by
 have hec:=QAY
 have hls:∀ a b:List UInt8,Op.bytesLess a b = decide (a < b):=fun a b=>bytesLess_eq a b
 refine QAF c73_ok rfl ?_
 unfold c73 wrR
 simp +decide -dsimp -implicitDefEqProofs [go_sem]
 refine QAR (S:=Nat) (fun i=>⟨tmps 58 [(0,.imm (l.map QBM)),(3,.ptr 0 0),(5,.own 1 (QIA w w.2.isNone (l.take i)).length),(6,.bool (QHt w (l.take i))),(7,.int .i64 i)],[.box 127 [.str w.1,.str (w.2.getD []),.bool w.2.isNone],.reg 53 2 ((QIA w w.2.isNone (l.take i)).map QBM)]⟩) (fun i=>l.length - i) (fun i=>i ≤ l.length) 0 (by simp) ((Wk.nilT 5 53 2 rfl (by simp)).trans (QAD (by simp) ?_)) ?_
 ·simp +decide -dsimp -implicitDefEqProofs [go_sem,hec,QHt,QIA]
 intro i hi
 by_cases h:i < l.length
 ·have wi:IntKind.i64.wrap ((i:Int) + 1) = i + 1:=w64 (by omega) (by omega)
  have hs:l.take (i + 1) = l.take i ++ [l[i]]:=List.take_succ_eq_append_getElem h
  have hd:QHt w (l.take (i + 1)) = (QHt w (l.take i) || decide (w.1 < l[i].1)):=by
   unfold QHt; rw [hs,List.any_append,← Bool.or_assoc]; simp only [List.any_cons,List.any_nil,Bool.or_false]
  have ho:QIA w w.2.isNone (l.take (i + 1)) = QIA w w.2.isNone (l.take i) ++ ((if QHt w (l.take i) = false ∧ w.1 < l[i].1 then [(w.1,w.2.getD [])] else []) ++ (if l[i].1 = w.1 then [] else [l[i]])):=by
   rw [hs,QKl]; rfl
  have hol:(QIA w w.2.isNone (l.take i)).length ≤ 2 * l.length:=Nat.le_trans (QJS _ _ _) (by rw [List.length_take]; omega)
  generalize QIA w w.2.isNone (l.take i) = out at ho hol
  generalize QHt w (l.take i) = dn at hd ho
  have e2:∀ x:Ent,out.map QBM ++ [[AV.str x.1,.str x.2]] = (out ++ [x]).map QBM:=fun x=>by simp [QBM]
  have e3:∀ x y:Ent,(out ++ [x]).map QBM ++ [[AV.str y.1,.str y.2]] = (out ++ [x,y]).map QBM:=fun x y=>by simp [QBM]
  by_cases h1:dn = false ∧ w.1 < l[i].1
  ·obtain ⟨rfl,hlt⟩:=h1
   have hne:¬ l[i].1 = w.1:=fun e=>by rw [e] at hlt; exact List.lt_irrefl _ hlt
   rw [if_pos ⟨rfl,hlt⟩,if_neg hne] at ho
   have e4:=e2 (w.1,w.2.getD [])
   simp only at e4
   have e5:=e3 (w.1,w.2.getD []) l[i]
   have hdt:QHt w (l.take (i + 1)) = true:=by rw [hd]; simp [hlt]
   simp +decide -dsimp -implicitDefEqProofs [go_sem,h,QBM,hls,hlt,hne,wi,maxLen]
   refine ⟨⟨by omega,by omega⟩,⟨by omega,by omega⟩,?_⟩
   refine QAI (i + 1) (by show i + 1 ≤ l.length; omega) (by show l.length - (i + 1) < l.length - i; omega) (QAD (by simp) ?_)
   rw [ho,hdt]
   simp +decide -dsimp -implicitDefEqProofs [go_sem,hec,QBM]
  ·rw [if_neg h1,List.nil_append] at ho
   have hdt:QHt w (l.take (i + 1)) = dn:=by
    rw [hd]
    cases dn with
    | true=>rfl
    | false=>
     have:¬ w.1 < l[i].1:=fun h=>h1 ⟨rfl,h⟩
     simp [this]
   have hdn:dn = true ∨ (dn = false ∧ ¬ w.1 < l[i].1):=by
    cases dn with
    | true=>exact .inl rfl
    | false=>exact .inr ⟨rfl,fun h=>h1 ⟨rfl,h⟩⟩
   have e4:=e2 l[i]
   by_cases hne:l[i].1 = w.1
   ·rw [if_pos hne,List.append_nil] at ho
    rcases hdn with rfl | ⟨rfl,hlt⟩
    ·simp +decide -dsimp -implicitDefEqProofs [go_sem,h,QBM,hne,wi]
     refine QAI (i + 1) (by show i + 1 ≤ l.length; omega) (by show l.length - (i + 1) < l.length - i; omega) (QAD (by simp) ?_)
     rw [ho,hdt]
     simp +decide -dsimp -implicitDefEqProofs [go_sem,hec]
    ·have hlt':¬ w.1 < w.1:=List.lt_irrefl _
     simp +decide -dsimp -implicitDefEqProofs [go_sem,h,QBM,hls,hlt',hne,wi]
     refine QAI (i + 1) (by show i + 1 ≤ l.length; omega) (by show l.length - (i + 1) < l.length - i; omega) (QAD (by simp) ?_)
     rw [ho,hdt]
     simp +decide -dsimp -implicitDefEqProofs [go_sem,hec]
   ·rw [if_neg hne] at ho
    rcases hdn with rfl | ⟨rfl,hlt⟩
    ·simp +decide -dsimp -implicitDefEqProofs [go_sem,h,QBM,hne,wi,maxLen]
     refine ⟨⟨by omega,by omega⟩,?_⟩
     refine QAI (i + 1) (by show i + 1 ≤ l.length; omega) (by show l.length - (i + 1) < l.length - i; omega) (QAD (by simp) ?_)
     rw [ho,hdt]
     simp +decide -dsimp -implicitDefEqProofs [go_sem,hec,QBM]
    ·simp +decide -dsimp -implicitDefEqProofs [go_sem,h,QBM,hls,hlt,hne,wi,maxLen]
     refine ⟨⟨by omega,by omega⟩,?_⟩
     refine QAI (i + 1) (by show i + 1 ≤ l.length; omega) (by show l.length - (i + 1) < l.length - i; omega) (QAD (by simp) ?_)
     rw [ho,hdt]
     simp +decide -dsimp -implicitDefEqProofs [go_sem,hec,QBM]
 ·have e:i = l.length:=by omega
  subst e
  rw [List.take_length]
  have hol:=QJS w w.2.isNone l
  have he:QOo w l = QIA w w.2.isNone l ++ (if QHt w l = true then [] else [(w.1,w.2.getD [])]):=QMS w _ l
  generalize QIA w w.2.isNone l = out at he hol
  generalize QHt w l = dn at he
  cases dn with
  | true=>
   rw [if_pos rfl,List.append_nil] at he
   rw [he]
   simp +decide -dsimp -implicitDefEqProofs [go_sem,hec]
  | false=>
   rw [if_neg (by simp)] at he
   rw [he]
   simp +decide -dsimp -implicitDefEqProofs [go_sem,hec,maxLen,QBM]
   exact ⟨by omega,by omega⟩
end Go.Ab
namespace Go.Ab
open Go Go.Proofs
def QBs (dm:QAs) (pend:List Wr):AV:=.agg [.imm ((QAn dm).map QBM),.imm (pend.map wrR)]
theorem QFw:∀ (l:List Wr) (m:QAs),(QA8 m l).length ≤ m.length + l.length
 | [],m=>Nat.le_refl _
 | w :: l,m=>by
  have h:=QFw l (doW m w)
  have h2:(doW m w).length ≤ m.length + 1:=by
   unfold doW
   split
   ·exact QHw _ _ _
   ·rw [QJa]; omega
  show (QA8 (doW m w) l).length ≤ _
  simp only [List.length_cons]; omega
theorem QEi {m:QAs}:(QAn m).length = QGM m:=by unfold QAn; rw [List.length_map,QC2,QEj]
theorem QHu (m:QAs):(QAn m).length ≤ m.length:=by rw [show (QAn m).length = QGM m by unfold QAn; rw [List.length_map,QC2,QEj]]; exact QKn m
theorem QGQ (m:QAs) (l:List Wr) (w:Wr):QA8 m (l ++ [w]) = doW (QA8 m l) w:=by unfold QA8; rw [List.foldl_append]; rfl
theorem QIl (dm:QAs) (pend:List Wr) (ho:QAx dm) (hn:dm.length + pend.length ≤ 100000):ACalls Tryz.prog 76 [QBs dm pend] [] (.imm ((QAn (QA8 dm pend)).map QBM)) []:=by
 have hec:=QAY
 have hwc:=QCt
 refine QAF c76_ok rfl ?_
 unfold c76 QBs
 simp +decide -dsimp -implicitDefEqProofs [go_sem]
 refine QAR (S:=Nat) (fun i=>⟨tmps 22 [(1,.ptr 0 0),(3,.imm ((QAn (QA8 dm (pend.take i))).map QBM)),(4,.int .i64 i)],[.box 72 [.imm ((QAn dm).map QBM),.imm (pend.map wrR)]]⟩) (fun i=>pend.length - i) (fun i=>i ≤ pend.length) 0 (by simp) (QAD (by simp) ?_) ?_
 ·simp +decide -dsimp -implicitDefEqProofs [go_sem,hec,hwc,QA8]
 intro i hi
 by_cases h:i < pend.length
 ·have wi:IntKind.i64.wrap ((i:Int) + 1) = i + 1:=w64 (by omega) (by omega)
  have hs:QA8 dm (pend.take (i + 1)) = doW (QA8 dm (pend.take i)) pend[i]:=by rw [List.take_succ_eq_append_getElem h,QGQ]
  have hone:=QCa (pend.take i) ho
  have hl:=QFw (pend.take i) dm
  rw [List.length_take] at hl
  have hel:=QHu (QA8 dm (pend.take i))
  have ca:=QLb (QAn (QA8 dm (pend.take i))) pend[i] (by omega)
  rw [← QJR hone,← hs] at ca
  generalize QAn (QA8 dm (pend.take i)) = E at ca
  unfold wrR at ca
  simp +decide -dsimp -implicitDefEqProofs [go_sem,h,wrR]
  refine QAA ca (by simp +decide -dsimp -implicitDefEqProofs [go_sem,hec]) (by simp +decide -dsimp -implicitDefEqProofs [go_sem,hec]) ?_
  simp +decide -dsimp -implicitDefEqProofs [go_sem,wi]
  refine QAI (i + 1) (by show i + 1 ≤ pend.length; omega) (by show pend.length - (i + 1) < pend.length - i; omega) (QAD (by simp) ?_)
  simp +decide -dsimp -implicitDefEqProofs [go_sem,hec]
  exact hwc _ _
 ·have e:i = pend.length:=by omega
  subst e
  rw [List.take_length]
  simp +decide -dsimp -implicitDefEqProofs [go_sem,hec]
theorem QLc (dm:QAs) (pend:List Wr) (w:Wr) (hp:pend.length ≤ 100000):ACalls Tryz.prog 120 [QBs dm pend,.agg (wrR w)] [] (QBs dm (pend ++ [w])) []:=by
 have hec:=QAY
 have hwc:=QCt
 have hl:∀ r ∈ pend.map wrR,r.length = 3:=fun r hr=>by obtain ⟨_,_,rfl⟩:=List.mem_map.1 hr; rfl
 have ha:pend.map wrR ++ [[AV.str w.1,.str (w.2.getD []),.bool w.2.isNone]] = (pend ++ [w]).map wrR:=by simp [wrR]
 refine QAF c120_ok rfl ?_
 unfold c120 QBs
 unfold wrR at ha ⊢
 simp +decide -dsimp -implicitDefEqProofs [go_sem,hec,maxLen]
 exact ⟨fun _ _ _ _ h=>h ▸ rfl,⟨by omega,by omega⟩,by omega,by omega⟩
theorem QMT (dm:QAs) (pend:List Wr) (keep:Int) (ho:QAx dm) (hn:dm.length + pend.length ≤ 100000):ACalls Tryz.prog 42 [QBs dm pend,.int .i64 keep] [] (QBs (QA8 dm (pend.take (QDr keep pend.length))) []) []:=by
 have hec:=QAY
 have hwc:=QCt
 refine QAF c42_ok rfl ?_
 unfold c42 QBs
 simp +decide -dsimp -implicitDefEqProofs [go_sem]
 refine QAR (S:=Nat) (fun i=>⟨tmps 30 [(1,.int .i64 keep),(2,.ptr 0 0),(4,.ptr 1 0),(5,.imm ((QAn (QA8 dm (pend.take i))).map QBM)),(6,.int .i64 i)],[.box 72 [.imm ((QAn dm).map QBM),.imm (pend.map wrR)],.box 72 [.nils,.nils]]⟩) (fun i=>pend.length - i) (fun i=>i ≤ QDr keep pend.length) 0 (by simp) (QAD (by simp) ?_) ?_
 ·simp +decide -dsimp -implicitDefEqProofs [go_sem,hec,hwc,QA8]
 intro i hi
 by_cases h:i < QDr keep pend.length
 ·have hil:i < pend.length:=by unfold QDr at h; omega
  have hik:(i:Int) < keep:=by unfold QDr at h; omega
  have wi:IntKind.i64.wrap ((i:Int) + 1) = i + 1:=w64 (by omega) (by omega)
  have hs:QA8 dm (pend.take (i + 1)) = doW (QA8 dm (pend.take i)) pend[i]:=by rw [List.take_succ_eq_append_getElem hil,QGQ]
  have hone:=QCa (pend.take i) ho
  have hl:=QFw (pend.take i) dm
  rw [List.length_take] at hl
  have hel:=QHu (QA8 dm (pend.take i))
  have ca:=QLb (QAn (QA8 dm (pend.take i))) pend[i] (by omega)
  rw [← QJR hone,← hs] at ca
  generalize QAn (QA8 dm (pend.take i)) = E at ca
  unfold wrR at ca
  simp +decide -dsimp -implicitDefEqProofs [go_sem,hil,hik,wrR]
  refine QAA ca (by simp +decide -dsimp -implicitDefEqProofs [go_sem,hec]) (by simp +decide -dsimp -implicitDefEqProofs [go_sem,hec]) ?_
  simp +decide -dsimp -implicitDefEqProofs [go_sem,wi]
  refine QAI (i + 1) (by show i + 1 ≤ QDr keep pend.length; omega) (by show pend.length - (i + 1) < pend.length - i; omega) (QAD (by simp) ?_)
  simp +decide -dsimp -implicitDefEqProofs [go_sem,hec]
  exact hwc _ _
 ·have e:i = QDr keep pend.length:=by omega
  by_cases hil:i < pend.length
  ·have hik:¬ (i:Int) < keep:=by unfold QDr at e; omega
   rw [← e]
   simp +decide -dsimp -implicitDefEqProofs [go_sem,hec,hil,hik]
  ·rw [← e]
   have hil':pend.length ≤ i:=by omega
   simp +decide -dsimp -implicitDefEqProofs [go_sem,hec,hil]
theorem QTB (dm:QAs) (pend:List Wr) (ho:QAx dm) (hn:dm.length + pend.length ≤ 100000):ACalls Tryz.prog 81 [QBs dm pend] [] (QBs (QA8 dm pend) []) []:=by
 have hec:=QAY
 have hwc:=QCt
 have cc:=QMT dm pend pend.length ho hn
 have hk:QDr pend.length pend.length = pend.length:=by unfold QDr; omega
 rw [hk,List.take_length] at cc
 refine QAF c81_ok rfl ?_
 unfold c81
 unfold QBs at cc ⊢
 simp +decide -dsimp -implicitDefEqProofs [go_sem]
 refine QAA cc (by simp +decide -dsimp -implicitDefEqProofs [go_sem,hec,hwc]) (by simp +decide -dsimp -implicitDefEqProofs [go_sem,hec]) ?_
 simp +decide -dsimp -implicitDefEqProofs [go_sem,hec]
def QOu (t n:List UInt8) (r:Rcd) (b:Bool):Prop:=
 (∃ x,QAb x = true ∧ QBJ x = t ∧ QAw x.path = n ∧ r = x ∧ b = true) ∨ ((∀ x,QAb x = true → QBJ x = t → ¬ QAw x.path = n) ∧ r = QCR ∧ b = false)
theorem QMU (n t:List UInt8) (ht:t.length < 50000000):∃ r b,QOu t n r b ∧ ACalls Tryz.prog 118 [.agg [.str n,.str t]] [] (QGn r b) []:=by
 have cd:=QOs t ht
 rcases QKB t with ⟨x,hx,hxe,hv⟩ | ⟨hno,hv⟩
 ·rw [hv] at cd
  have hpl:=QBS hx
  have cn:=QFL x.path (by have:=(QBf hx).path; omega)
  unfold QKt at cn
  simp only [hpl,if_true] at cn
  by_cases he:QAw x.path = n
  ·refine ⟨x,true,.inl ⟨x,hx,hxe,he,rfl,rfl⟩,?_⟩
   refine QAF c118_ok rfl ?_
   unfold c118
   simp +decide -dsimp -implicitDefEqProofs [go_sem]
   refine QAA cd rfl (by simp +decide -dsimp -implicitDefEqProofs [go_sem,QAg]) ?_
   unfold QGn QAU
   simp +decide -dsimp -implicitDefEqProofs [go_sem]
   refine QAA cn rfl rfl ?_
   simp +decide -dsimp -implicitDefEqProofs [go_sem,he]
  ·refine ⟨QCR,false,.inr ⟨fun y hy hye hp=>?_,rfl,rfl⟩,?_⟩
   ·have:=QD6 hy hx (hye.trans hxe.symm)
    exact he (this ▸ hp)
   ·refine QAF c118_ok rfl ?_
    unfold c118
    simp +decide -dsimp -implicitDefEqProofs [go_sem]
    refine QAA cd rfl (by simp +decide -dsimp -implicitDefEqProofs [go_sem,QAg]) ?_
    unfold QGn
    rw [QEE]
    unfold QAU
    simp +decide -dsimp -implicitDefEqProofs [go_sem]
    refine QAA cn rfl rfl ?_
    simp +decide -dsimp -implicitDefEqProofs [go_sem,he]
 ·rw [hv] at cd
  refine ⟨QCR,false,.inr ⟨fun y hy hye _=>hno ⟨y,hy,hye⟩,rfl,rfl⟩,?_⟩
  refine QAF c118_ok rfl ?_
  unfold c118
  simp +decide -dsimp -implicitDefEqProofs [go_sem]
  refine QAA cd rfl (by simp +decide -dsimp -implicitDefEqProofs [go_sem]) ?_
  unfold QGn
  rw [QEE]
  simp +decide -dsimp -implicitDefEqProofs [go_sem]
end Go.Ab
