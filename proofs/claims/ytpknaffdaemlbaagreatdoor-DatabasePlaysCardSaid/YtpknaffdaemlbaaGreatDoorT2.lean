/- A layer of abstract values over the model, and what is proved with it: part T2. -/
import Derived.Test.YtpknaffdaemlbaaGreatDoorOX
import Derived.Shelf.Strings.Builder1
import Derived.Shelf.Strings.Builder2
import Derived.Shelf.Strings.OnBuilder
import Derived.Shelf.Small.Utf8
import Derived.Shelf.Small.Bits
import Derived.Shelf.Small.Strs
import Derived.Shelf.Small.Wraps
import Derived.Shelf.Utf8.RuneCount
import Derived.Shelf.Strconv.Itoa0
import Derived.Shelf.Strconv.Itoa1
import Derived.Shelf.LaysM
import Derived.Shelf.Strconv.Itoa2
import Derived.Shelf.Strconv.Itoa3
import Derived.Shelf.Strconv.Itoa4
import Derived.Shelf.Strconv.Clone
import Derived.Shelf.Strconv.SyntaxError
import Derived.Shelf.LaysC
import Derived.Shelf.Strconv.ToError
import Derived.Shelf.Strconv.RangeError
import Derived.Shelf.Strconv.ToErrorRange
import Derived.Shelf.Strings.Search1
import Derived.Shelf.Strings.Search2
import Derived.Shelf.Strings.Search3
import Derived.Shelf.Strings.Cut
import Derived.Shelf.Strings.Count
import Derived.Shelf.Strings.Shaped
import Derived.Shelf.Strings.Prefix
import Derived.Shelf.Strings.Split
import Derived.Shelf.Strings.SplitShaped
import Derived.Shelf.Unicode.Latin
import Derived.Shelf.Unicode.Decode
import Derived.Shelf.Strings.Runes
import Derived.Shelf.Strings.RuneCount
import Derived.Shelf.Strings.IndexAny
import Derived.Shelf.Strings.AsciiSet
import Derived.Shelf.Strings.IndexAnyAll
import Derived.Shelf.Strings.Explode
import Derived.Shelf.Bits.Mul64
import Derived.Shelf.Unicode.DecodeSlow
import Derived.Shelf.Unicode.DecodeAny
import Derived.Shelf.Unicode.CaseLookup
import Derived.Shelf.Unicode.CaseConvert
import Derived.Shelf.Unicode.CaseTo
import Derived.Shelf.Unicode.CaseLaid
import Derived.Test.YtpknaffdaemlbaaGreatDoorProg
import Derived.Test.YtpknaffdaemlbaaGreatDoorCX
import Derived.Test.YtpknaffdaemlbaaGreatDoorSK
import Derived.Sort.Walk0
import Derived.Sort.LotA
namespace Go.Proofs
open Go.Shelf Go.RowKit Go.Lib Go.Sort
def Tryz.lays125_ren:Go.Shelf.Ren:=⟨fun | 125=>95 | 128=>137 | 129=>138 | n=>n,fun | 46=>98 | 3=>3 | 51=>142 | 53=>145 | 4=>4 | 5=>5 | 9=>9 | n=>n,fun | n=>n⟩
theorem Tryz.lays125:Go.Proofs.Lays.n125 Tryz.prog Tryz.lays125_ren:={
 mixed:=by kernel_rfl
 f125:=Tryz.func95.trans (congrArg some (by kernel_rfl))
 f128:=Tryz.func137.trans (congrArg some (by kernel_rfl))
 f129:=Tryz.func138.trans (congrArg some (by kernel_rfl))
 t3:=Tryz.underlying3
 a3:=Tryz.isAgg3
 z3:=Tryz.sizeOf3
 v3:=Tryz.zeroValue3
 t4:=Tryz.underlying4
 a4:=Tryz.isAgg4
 z4:=Tryz.sizeOf4
 v4:=Tryz.zeroValue4
 t5:=Tryz.underlying5
 a5:=Tryz.isAgg5
 z5:=Tryz.sizeOf5
 v5:=Tryz.zeroValue5
 t9:=Tryz.underlying9
 a9:=Tryz.isAgg9
 z9:=Tryz.sizeOf9
 v9:=Tryz.zeroValue9
 t46:=Tryz.underlying98
 a46:=Tryz.isAgg98
 z46:=Tryz.sizeOf98
 v46:=Tryz.zeroValue98
 t51:=Tryz.underlying142
 a51:=Tryz.isAgg142
 z51:=Tryz.sizeOf142
 v51:=Tryz.zeroValue142
 t53:=Tryz.underlying145
 a53:=Tryz.isAgg145
 z53:=Tryz.sizeOf145
 v53:=Tryz.zeroValue145 }
theorem Tryz.bits_Len (x:Int) (w:World) (h0:0 ≤ x) (h1:x ≤ 18446744073709551615):
  Calls Tryz.prog 95 #[.int .u64 x] w fun e w'=>e = .returned (.int .i64 (Lib.bitLen x.toNat)) ∧ w' = w:=Any.bits_Len Tryz.lays125 x w h0 h1
end Go.Proofs
namespace Go.Ab
open Go Go.Proofs
def c178:AFn:=⟨(sq [(y2 2)] (sq [(mv 3 0),(mv 4 0),(z9 5 .neq 3 4),(mv 2 5)] .ret)),6,[(.tmp 2)]⟩
theorem c178_ok:QAE Tryz.prog [] 178 = some c178:=by kernel_rfl
def c142:AFn:=⟨(sq [(z3 4 0)] (sq [(mv 7 0),(y7 8 178 7),(mv 5 8)] (sq [(mv 9 1),(y7 10 178 9),(mv 6 10)] (.seq (sq [(mv 11 5)] (cd 11 (.seq (sq [(mv 12 6)] (cd 12 (sq [(z3 4 0)] .ret) .skip)) (sq [(z3 4 (-1))] .ret)) .skip)) (.seq (sq [(mv 13 6)] (cd 13 (sq [(z3 4 1)] .ret) .skip)) (.seq (sq [(mv 14 0),(mv 15 1),(z9 16 .lss 14 15)] (cd 16 (sq [(z3 4 (-1))] .ret) .skip)) (.seq (sq [(mv 17 0),(mv 18 1),(z9 19 .gtr 17 18)] (cd 19 (sq [(z3 4 1)] .ret) .skip)) (sq [(z3 4 0)] .ret)))))))),20,[(.tmp 4)]⟩
theorem c142_ok:QAE Tryz.prog [] 142 = some c142:=by kernel_rfl
def c97:AFn:=⟨(sq [(z3 4 0)] (.seq (sq [(mv 9 0),(y9 10 9),(z3 11 0)] (.block 0 (.loop (sq [(z9 12 .lss 11 10)] (.seq (cd 12 .skip (.exit 0)) (.seq (.block 1 (sq [(mv 13 11),(z6 14 1 9 11),(z2 15 14),(mv 5 13),(mv 6 15)] (.seq (sq [(mv 16 5),(mv 17 1),(y9 18 17),(z9 19 .geq 16 18)] (cd 19 (sq [(z3 4 1)] .ret) .skip)) (sq [(mv 20 1),(mv 21 5),(z6 22 1 20 21),(z2 23 22),(mv 7 23)] (sq [(mv 24 6),(mv 25 7),(y8 26 142 24 25),(mv 8 26)] (sq [(mv 27 8),(z8 28 .neq 27 0)] (cd 28 (sq [(mv 29 8),(mv 4 29)] .ret) .skip))))))) (.ops [(z8 30 .add 11 1),(mv 11 30)]))))))) (.seq (sq [(mv 31 0),(y9 32 31),(mv 33 1),(y9 34 33),(z9 35 .lss 32 34)] (cd 35 (sq [(z3 4 (-1))] .ret) .skip)) (sq [(z3 4 0)] .ret)))),36,[(.tmp 4)]⟩
theorem c97_ok:QAE Tryz.prog [] 97 = some c97:=by kernel_rfl
def c61:AFn:=⟨(sq [(z3 4 0),(z3 5 0)] (sq [(mv 11 0),(y7 12 96 11),(mv 10 12),(z7 13 10 0),(z7 14 10 1),(mv 6 13),(mv 7 14)] (sq [(mv 16 1),(y7 17 96 16),(mv 15 17),(z7 18 15 0),(z7 19 15 1),(mv 8 18),(mv 9 19)] (.seq (sq [(mv 20 7),(z8 21 .neq 20 0),(mv 22 21),(z5 23 9 22),(of 24 (b1 .neq 23 0) 22),(y4 25 22 24)] (cd 25 (sq [(z3 4 0),(z3 5 10)] .ret) .skip)) (sq [(mv 26 6),(mv 27 8),(y8 28 97 26 27),(mv 4 28),(z3 5 0)] .ret))))),29,[(.tmp 4),(.tmp 5)]⟩
theorem c61_ok:QAE Tryz.prog [] 61 = some c61:=by kernel_rfl
def c60:AFn:=⟨(sq [(x4 2 34 0),(x4 3 34 1),(z3 4 0)] (sq [(z1 8 0 2),(z2 9 8),(z1 10 0 3),(z2 11 10),(y8 12 61 9 11),(mv 7 12),(z7 13 7 0),(z7 14 7 1),(mv 5 13),(mv 6 14)] (sq [(mv 15 5),(mv 4 15)] .ret))),16,[(.tmp 4)]⟩
theorem c60_ok:QAE Tryz.prog [] 60 = some c60:=by kernel_rfl
def c129:AFn:=⟨(sq [(mv 10 1),(z8 11 .add 10 1),(mv 8 11)] (.block 0 (.loop (.seq (sq [(mv 12 8),(mv 13 2),(z9 14 .lss 12 13)] (cd 14 .skip (.exit 0))) (.seq (.block 1 (sq [(mv 17 8),(mv 9 17)] (.block 2 (.loop (.seq (.seq (.draw [(mv 18 9),(mv 19 1),(z9 20 .gtr 18 19),(mv 21 20),(z4 22 3 21),(z4 23 0 21),(z4 24 9 21),(ot 25 (.iaddr none 12 (t 23) (t 24)) 21),(ot 26 (.load (some 12) (t 25)) 21),(z4 27 0 21),(z4 28 9 21),(ot 29 (b1 .sub 28 1) 21),(ot 30 (.iaddr none 12 (t 27) (t 29)) 21),(ot 31 (.load (some 12) (t 30)) 21),(ot 32 (.call (t 22) [(t 26),(t 31)]) 21),(ot 33 (b1 .lss 32 0) 21),(y3 34 21 33)] [0,0,3,7,15,15,15,111,239,15,15,1039,3599,7695,16383,32767,65535]) (cd 34 .skip (.exit 2))) (.seq (.block 3 (.draw [(mv 37 0),(mv 38 9),(mv 39 0),(mv 40 9),(z8 41 .sub 40 1),(mv 42 0),(mv 43 9),(z8 44 .sub 43 1),(z6 45 12 42 44),(y1 46 12 45),(mv 47 0),(mv 48 9),(z6 49 12 47 48),(y1 50 12 49),(z6 51 12 37 38),(y5 12 51 46),(z6 52 12 39 41),(y5 12 52 50)] [0,0,0,0,8,0,0,64,224,480,0,0,3072,7168,16355,32739,65535,131071])) (.ops [(mv 35 9),(z8 36 .sub 35 1),(mv 9 36)]))))))) (.ops [(mv 15 8),(z8 16 .add 15 1),(mv 8 16)])))))),53,[]⟩
theorem c129_ok:QAE Tryz.prog [] 129 = some c129:=by kernel_rfl
def c94:AFn:=⟨(sq [(ox 10 (mb true))] (sq [(ox 11 (mb true))] (.block 0 (.loop (.block 1 (sq [(mv 21 2),(mv 22 1),(z9 23 .sub 21 22),(mv 12 23)] (.seq (sq [(mv 24 12),(z8 25 .leq 24 12)] (cd 25 (sq [(mv 26 0),(mv 27 1),(mv 28 2),(mv 29 4),(ox 30 (fc 129 [(t 26),(t 27),(t 28),(t 29)]))] .ret) .skip)) (.seq (sq [(mv 31 3),(z8 32 .eql 31 0)] (cd 32 (sq [(mv 33 0),(mv 34 1),(mv 35 2),(mv 36 4),(ox 37 (fc 130 [(t 33),(t 34),(t 35),(t 36)]))] .ret) .skip)) (.seq (sq [(mv 38 10),(x5 39 38)] (cd 39 (sq [(mv 40 0),(mv 41 1),(mv 42 2),(mv 43 4),(ox 44 (fc 131 [(t 40),(t 41),(t 42),(t 43)]))] (.ops [(mv 45 3),(z8 46 .sub 45 1),(mv 3 46)])) .skip)) (sq [(mv 48 0),(mv 49 1),(mv 50 2),(mv 51 4),(ox 52 (fc 132 [(t 48),(t 49),(t 50),(t 51)])),(mv 47 52),(z7 53 47 0),(z7 54 47 1),(mv 13 53),(mv 14 54)] (.seq (sq [(mv 55 14),(z8 56 .eql 55 2)] (cd 56 (sq [(mv 57 0),(mv 58 1),(mv 59 2),(mv 60 4),(ox 61 (fc 133 [(t 57),(t 58),(t 59),(t 60)]))] (sq [(mv 62 2),(z8 63 .sub 62 1),(mv 64 13),(mv 65 1),(z9 66 .sub 64 65),(z9 67 .sub 63 66),(mv 13 67)] (.ops [(z3 14 1)]))) .skip)) (.seq (sq [(mv 68 10),(mv 69 68),(z4 70 11 69),(y3 71 69 70),(mv 72 71),(z4 73 14 72),(ot 74 (b1 .eql 73 1) 72),(y3 75 72 74)] (cd 75 (sq [(mv 76 0),(mv 77 1),(mv 78 2),(mv 79 4),(ox 80 (fc 134 [(t 76),(t 77),(t 78),(t 79)]))] (cd 80 .ret .skip)) .skip)) (.seq (.seq (.draw [(mv 81 1),(z8 82 .gtr 81 0),(mv 83 82),(z4 84 4 83),(z4 85 0 83),(z4 86 1 83),(ot 87 (b1 .sub 86 1) 83),(ot 88 (.iaddr none 12 (t 85) (t 87)) 83),(ot 89 (.load (some 12) (t 88)) 83),(z4 90 0 83),(z4 91 13 83),(ot 92 (.iaddr none 12 (t 90) (t 91)) 83),(ot 93 (.load (some 12) (t 92)) 83),(ot 94 (.call (t 84) [(t 89),(t 93)]) 83),(ot 95 (b1 .lss 94 0) 83),(ot 96 (.un .not (t 95)) 83),(y3 97 83 96)] [0,1,3,7,7,7,39,119,247,7,7,1543,3591,8191,16383,32767,65535]) (cd 97 (sq [(mv 98 0),(mv 99 1),(mv 100 2),(mv 101 13),(mv 102 4),(ox 103 (fc 135 [(t 98),(t 99),(t 100),(t 101),(t 102)])),(mv 15 103)] (sq [(mv 104 15),(mv 1 104)] (.exit 1))) .skip)) (sq [(mv 106 0),(mv 107 1),(mv 108 2),(mv 109 13),(mv 110 4),(ox 111 (fc 136 [(t 106),(t 107),(t 108),(t 109),(t 110)])),(mv 105 111),(z7 112 105 0),(z7 113 105 1),(mv 16 112),(mv 17 113)] (sq [(mv 114 17),(mv 11 114)] (sq [(mv 115 16),(mv 116 1),(z9 117 .sub 115 116),(mv 118 2),(mv 119 16),(z9 120 .sub 118 119),(mv 18 117),(mv 19 120)] (sq [(mv 121 12),(z8 122 .quo 121 8),(mv 20 122)] (sq [(mv 123 18),(mv 124 19),(z9 125 .lss 123 124)] (cd 125 (sq [(mv 126 18),(mv 127 20),(z9 128 .geq 126 127),(mv 10 128)] (sq [(mv 129 0),(mv 130 1),(mv 131 16),(mv 132 3),(mv 133 4),(ox 134 (fc 94 [(t 129),(t 130),(t 131),(t 132),(t 133)]))] (.ops [(mv 135 16),(z8 136 .add 135 1),(mv 1 136)]))) (sq [(mv 137 19),(mv 138 20),(z9 139 .geq 137 138),(mv 10 139)] (sq [(mv 140 0),(mv 141 16),(z8 142 .add 141 1),(mv 143 2),(mv 144 3),(mv 145 4),(ox 146 (fc 94 [(t 140),(t 142),(t 143),(t 144),(t 145)]))] (.ops [(mv 147 16),(mv 2 147)])))))))))))))))))))))),148,[]⟩
theorem c94_ok:QAE Tryz.prog [] 94 = some c94:=by kernel_rfl
def c59:AFn:=⟨(sq [(mv 5 0),(y9 6 5),(mv 4 6)] (.ops [(mv 7 0),(mv 8 4),(mv 9 4),(ox 10 (.conv .u64 (t 9))),(y7 11 95 10),(mv 12 1),(ox 13 (fc 94 [(t 7),(iv 0),(t 8),(t 11),(t 12)]))])),14,[]⟩
theorem c59_ok:QAE Tryz.prog [] 59 = some c59:=by kernel_rfl
end Go.Ab
namespace Go.Ab
open Go Go.Proofs
def QJJ (a b:List UInt8):Int:=if a < b then -1 else if a = b then 0 else 1
def QF2:List (List UInt8) → List (List UInt8) → Int
 | [],[]=>0
 | [],_ :: _=>-1
 | _ :: _,[]=>1
 | x :: r,y :: s=>if QJJ x y = 0 then QF2 r s else QJJ x y
theorem QOb (a:List UInt8):ACalls Tryz.prog 178 [.str a] [] (.bool false) []:=by
 refine QAF c178_ok rfl ?_
 unfold c178
 simp +decide -dsimp -implicitDefEqProofs [go_sem]
theorem QVp (a b:List UInt8):ACalls Tryz.prog 142 [.str a,.str b] [] (.int .i64 (QJJ a b)) []:=by
 have e:Op.bytesLess a b = decide (a < b):=bytesLess_eq a b
 refine QAF c142_ok rfl ?_
 unfold c142
 simp +decide -dsimp -implicitDefEqProofs [go_sem]
 refine QAA (QOb a) rfl rfl ?_
 simp +decide -dsimp -implicitDefEqProofs [go_sem]
 refine QAA (QOb b) rfl rfl ?_
 by_cases h:a < b
 ·simp +decide -dsimp -implicitDefEqProofs [go_sem,e,h,QJJ]
 ·by_cases h2:a = b
  ·subst h2
   simp +decide -dsimp -implicitDefEqProofs [go_sem,e,h,QJJ]
  ·simp +decide -dsimp -implicitDefEqProofs [go_sem,e,h,h2,QJJ]
theorem QS5 (l m:List (List UInt8)) (hl:l.length < 1000000) (_hm:m.length < 1000000):ACalls Tryz.prog 97 [.imm (l.map QAf),.imm (m.map QAf)] [] (.int .i64 (QF2 l m)) []:=by
 refine QAF c97_ok rfl ?_
 unfold c97
 simp +decide -dsimp -implicitDefEqProofs [go_sem]
 refine QAR (S:=Nat) (fun i=>⟨tmps 36 [(0,.imm (l.map QAf)),(1,.imm (m.map QAf)),(9,.imm (l.map QAf)),(10,.int .i64 l.length),(11,.int .i64 i)],[]⟩) (fun i=>l.length - i)
  (fun i=>i ≤ l.length ∧ i ≤ m.length ∧ QF2 l m = QF2 (l.drop i) (m.drop i)) 0 (by simp) (QAD (by simp) ?_) ?_
 ·simp +decide -dsimp -implicitDefEqProofs [go_sem]
 rintro i ⟨hi,hj,hc⟩
 by_cases h:i < l.length
 ·have hdl:l.drop i = l[i] :: l.drop (i + 1):=List.drop_eq_getElem_cons h
  have w:IntKind.i64.wrap ((i:Int) + 1) = i + 1:=w64 (by omega) (by omega)
  by_cases h2:i < m.length
  ·have hdm:m.drop i = m[i] :: m.drop (i + 1):=List.drop_eq_getElem_cons h2
   have h3:¬ m.length ≤ i:=by omega
   rw [hdl,hdm,QF2] at hc
   have cs:=QVp l[i] m[i]
   simp +decide -dsimp -implicitDefEqProofs [go_sem,h,h2,h3]
   refine QAA cs rfl rfl ?_
   by_cases h0:QJJ l[i] m[i] = 0
   ·rw [if_pos h0] at hc
    simp +decide -dsimp -implicitDefEqProofs [go_sem,h0,w]
    refine QAI (i + 1) ⟨by omega,by omega,hc⟩ (by show l.length - (i + 1) < l.length - i; omega) (QAD (by simp) ?_)
    simp +decide -dsimp -implicitDefEqProofs [go_sem]
   ·rw [if_neg h0] at hc
    simp +decide -dsimp -implicitDefEqProofs [go_sem,h0,hc]
  ·have h3:m.length ≤ i:=by omega
   have hdm:m.drop i = []:=List.drop_eq_nil_of_le h3
   rw [hdl,hdm,QF2] at hc
   simp +decide -dsimp -implicitDefEqProofs [go_sem,h,h3,hc]
 ·have e:i = l.length:=by omega
  subst e
  rw [List.drop_length] at hc
  by_cases h2:l.length < m.length
  ·have hdm:m.drop l.length = m[l.length] :: m.drop (l.length + 1):=List.drop_eq_getElem_cons h2
   rw [hdm,QF2] at hc
   simp +decide -dsimp -implicitDefEqProofs [go_sem,h2,hc]
  ·have hdm:m.drop l.length = []:=List.drop_eq_nil_of_le (by omega)
   rw [hdm,QF2] at hc
   simp +decide -dsimp -implicitDefEqProofs [go_sem,h2,hc]
def QDP (p:List UInt8):List (List UInt8):=(QCf p).getD []
def QEv (a b:List UInt8):Int:=QF2 (QDP a) (QDP b)
theorem QCi {p:List UInt8} (h:QAd p = true):QCf p = some (QDP p) ∧ (QDP p).length ≤ 7:=by
 unfold QAd at h
 unfold QDP
 cases e:QCf p with
 | none=>rw [e] at h; cases h
 | some l=>rw [e] at h; exact ⟨rfl,by simpa using h⟩
theorem QM8 (a b:List UInt8) (ha:QAd a = true) (hb:QAd b = true):ACalls Tryz.prog 61 [.str a,.str b] [] (.tup [.int .i64 (QEv a b),.int .i64 0]) []:=by
 obtain ⟨ea,la⟩:=QCi ha
 obtain ⟨eb,lb⟩:=QCi hb
 have ca:=QI2 a (by have:=QBV ha; omega)
 have cb:=QI2 b (by have:=QBV hb; omega)
 rw [ea] at ca
 rw [eb] at cb
 have cc:=QS5 (QDP a) (QDP b) (by omega) (by omega)
 refine QAF c61_ok rfl ?_
 unfold c61
 simp +decide -dsimp -implicitDefEqProofs [go_sem]
 refine QAA ca rfl (by simp +decide -dsimp -implicitDefEqProofs [go_sem]) ?_
 simp +decide -dsimp -implicitDefEqProofs [go_sem]
 refine QAA cb rfl (by simp +decide -dsimp -implicitDefEqProofs [go_sem]) ?_
 simp +decide -dsimp -implicitDefEqProofs [go_sem]
 refine QAA cc (by simp +decide -dsimp -implicitDefEqProofs [go_sem]) rfl ?_
 simp +decide -dsimp -implicitDefEqProofs [go_sem,QEv]
theorem QDH (a b:Rcd) (ha:QAd a.path = true) (hb:QAd b.path = true):ACalls Tryz.prog 60 [.agg (QAU a),.agg (QAU b)] [] (.int .i64 (QEv a.path b.path)) []:=by
 refine QAF c60_ok rfl ?_
 unfold c60 QAU
 simp +decide -dsimp -implicitDefEqProofs [go_sem]
 refine QAA (QM8 a.path b.path ha hb) rfl rfl ?_
 simp +decide -dsimp -implicitDefEqProofs [go_sem]
end Go.Ab
namespace Go.Ab
open Go Go.Proofs Go.Sort
instance:Inhabited Rcd:=⟨QCR⟩
def ltR (x y:Rcd):Bool:=decide (QEv x.path y.path < 0)
def rows (d:Array Rcd):List (List AV):=d.toList.map QAU
def okP (d:Array Rcd):Prop:=∀ x ∈ d.toList,QAd x.path = true
theorem QA9 {d:Array Rcd} (h:okP d) {j:Nat} (hj:j < d.size):QAd d[j]!.path = true:=by
 rw [getElem!_pos d j hj]; exact h _ (by simp)
theorem QLV {d:Array Rcd} {j:Nat} (hj:j < d.size):(rows d)[j]? = some (QAU d[j]!):=by
 rw [getElem!_pos d j hj]; simp [rows,hj]
theorem QBH (d:Array Rcd):(rows d).length = d.size:=by simp [rows]
theorem QA2 (d:Array Rcd) (i j:Nat):(swp d i j).size = d.size:=by simp [swp]
theorem QBd (d:Array Rcd) (i j:Nat):((rows d).set i (QAU d[j]!)).set j (QAU d[i]!) = rows (swp d i j):=by simp [rows,swp]
theorem QBj {d:Array Rcd} (h:okP d) {i j:Nat} (hi:i < d.size) (hj:j < d.size):okP (swp d i j):=by
 intro x hx
 simp only [swp,Array.toList_setIfInBounds] at hx
 rcases List.mem_or_eq_of_mem_set hx with hx | rfl
 ·rcases List.mem_or_eq_of_mem_set hx with hx | rfl
  ·exact h x hx
  ·exact QA9 h hj
 ·exact QA9 h hi
def rgO (d:Array Rcd):AObj:=.reg 34 12 (rows d)
theorem QAG (k:Nat) (d:Array Rcd):QAV k (rows d) = true:=QAa fun x _=>QAg k x
theorem QDQ (is:List Nat) (d:Array Rcd):QA4 is (rows d) = rows d:=by
 unfold rows
 induction d.toList with
 | nil=>rfl
 | cons x r ih=>rw [List.map_cons,QA4,ih,QA5]
theorem QA3 (r:Rcd):(QAU r).drop 12 = []:=rfl
theorem QVq (n:Nat) (h:n ≤ 1000000):ACalls Tryz.prog 95 [.int .u64 n] [] (.int .i64 (Go.Lib.bitLen n:Nat)) []:=by
 refine .of_below (by kernel_rfl) fun c vs hv hg=>?_
 simp only [QAo,Val] at hv
 obtain ⟨v,vs',rfl,rfl,rfl⟩:=hv
 refine (Tryz.bits_Len n c.w (by omega) (by omega)).mono fun e w' h=>?_
 obtain ⟨rfl,rfl⟩:=h
 exact ⟨_,rfl,Go.RowKit.Below.refl _ _,fun c'=>by simp only [Val]; rw [Int.toNat_natCast]⟩
end Go.Ab
namespace Go.Ab
open Go Go.Proofs Go.Sort
theorem QIf:∀ s:List UInt8,QDK (QBY 47 s) = 47 :: s
 | []=>rfl
 | x :: r=>by
  have ih:=QIf r
  unfold QBY
  by_cases h:x = 47
  ·subst h; rw [if_pos rfl,QDK,ih]; rfl
  ·rw [if_neg h]
   have hne:=QEd 47 r
   cases e:QBY 47 r with
   | nil=>exact absurd e hne
   | cons a l=>
    rw [e] at ih
    simp only [QDK,List.cons.injEq,true_and] at ih ⊢
    rw [← ih]; rfl
theorem QIg {p:List UInt8} {l:List (List UInt8)} (h:QCf p = some l):p = QDK l:=by
 cases p with
 | nil=>cases h
 | cons c r=>
  simp only [QCf] at h
  split at h
  ·rename_i h2
   obtain ⟨rfl,_⟩:=h2
   cases h
   rw [QCq,QIf]
  ·cases h
theorem QS6 (a b:List UInt8):QJJ a b < 0 ↔ a < b:=by
 unfold QJJ
 by_cases h:a < b
 ·simp [h]
 ·by_cases h2:a = b
  ·subst h2; simp [h]
  ·simp [h,h2]
theorem QFF (a b:List UInt8):QJJ a b = 0 ↔ a = b:=by
 unfold QJJ
 by_cases h:a < b
 ·have:a ≠ b:=fun e=>by subst e; exact List.lt_irrefl _ h
  simp [h,this]
 ·by_cases h2:a = b
  ·subst h2; simp [h]
  ·simp [h,h2]
theorem QS7:∀ (l m:List (List UInt8)),QF2 l m = 0 ↔ l = m
 | [],[]=>by simp [QF2]
 | [],_ :: _=>by simp [QF2]
 | _ :: _,[]=>by simp [QF2]
 | x :: r,y :: s=>by
  rw [QF2]
  by_cases h:QJJ x y = 0
  ·rw [if_pos h,QS7 r s]
   rw [QFF] at h
   simp [h]
  ·rw [if_neg h]
   have h2:x ≠ y:=fun e=>h ((QFF x y).2 e)
   simp [h,h2]
theorem QEg:∀ (l m:List (List UInt8)),QF2 l m < 0 ↔ l < m
 | [],[]=>by simp [QF2]
 | [],_ :: _=>by simp [QF2]
 | _ :: _,[]=>by simp [QF2]
 | x :: r,y :: s=>by
  rw [QF2,List.cons_lt_cons_iff]
  by_cases h:QJJ x y = 0
  ·rw [if_pos h,QEg r s]
   rw [QFF] at h
   subst h
   simp [List.lt_irrefl]
  ·rw [if_neg h,QS6]
   have h2:x ≠ y:=fun e=>h ((QFF x y).2 e)
   simp [h2]
theorem QOc {p q:List UInt8} (hp:QAd p = true) (hq:QAd q = true) (h:QDP p = QDP q):p = q:=by
 have h1:=QIg (QCi hp).1
 have h2:=QIg (QCi hq).1
 rw [h1,h2,h]
def ltP (p q:List UInt8):Bool:=decide (QEv p q < 0)
theorem swo_ltP:SWO ltP where
 irrefl x:=by simp [ltP,QEv,QEg,List.lt_irrefl]
 trans x y z h1 h2:=by simp only [ltP,QEv,QEg,decide_eq_true_eq] at *; exact List.lt_trans h1 h2
 ntrans x y z h1 h2:=by
  simp only [ltP,QEv,QEg,decide_eq_false_iff_not,List.not_lt] at *
  exact List.le_trans h2 h1
theorem QEh:SWO ltR where
 irrefl x:=swo_ltP.irrefl x.path
 trans x y z:=swo_ltP.trans x.path y.path z.path
 ntrans x y z:=swo_ltP.ntrans x.path y.path z.path
theorem QKc {p q:List UInt8} (hp:QAd p = true) (hq:QAd q = true) (h1:¬ QEv p q < 0) (h2:¬ QEv q p < 0):p = q:=by
 simp only [QEv,QEg,List.not_lt] at h1 h2
 exact QOc hp hq (List.le_antisymm h2 h1)
theorem QLW {α:Type} {R:α → α → Prop} (ha:∀ a b,R a b → ¬ R b a):∀ {l l':List α},l.Pairwise R → l'.Pairwise R → (∀ x,x ∈ l ↔ x ∈ l') → l = l'
 | [],[],_,_,_=>rfl
 | [],b :: l',_,_,h=>absurd ((h b).2 (List.mem_cons_self ..)) (by simp)
 | a :: l,[],_,_,h=>absurd ((h a).1 (List.mem_cons_self ..)) (by simp)
 | a :: l,b :: l',h1,h2,h=>by
  rw [List.pairwise_cons] at h1 h2
  have e:a = b:=by
   rcases List.mem_cons.1 ((h a).1 (List.mem_cons_self ..)) with e | e
   ·exact e
   ·rcases List.mem_cons.1 ((h b).2 (List.mem_cons_self ..)) with e2 | e2
    ·exact e2.symm
    ·exact absurd (h1.1 b e2) (ha _ _ (h2.1 a e))
  subst e
  have na:∀ {m:List α},(∀ x ∈ m,R a x) → a ∉ m:=fun hm hx=>ha _ _ (hm a hx) (hm a hx)
  have n1:=na h1.1
  have n2:=na h2.1
  rw [QLW ha h1.2 h2.2 fun x=>⟨fun hx=>?_,fun hx=>?_⟩]
  ·rcases List.mem_cons.1 ((h x).1 (List.mem_cons_of_mem _ hx)) with rfl | h3
   ·exact absurd hx n1
   ·exact h3
  ·rcases List.mem_cons.1 ((h x).2 (List.mem_cons_of_mem _ hx)) with rfl | h3
   ·exact absurd hx n2
   ·exact h3
def QNK (l:List Rcd):Prop:=l.Pairwise fun a b=>QEv a.path b.path < 0
theorem QMM {l l':List Rcd} (h1:QNK l) (h2:QNK l') (h:∀ x,x ∈ l ↔ x ∈ l'):l = l':=
 QLW (fun a b h k=>by
  simp only [QEv,QEg] at h k
  exact List.lt_irrefl _ (List.lt_trans h k)) h1 h2 h
theorem QIh {d:Array Rcd} (h0:okP d) (hn:d.toList.Pairwise fun a b=>a.path ≠ b.path):(∀ x,x ∈ (insertionSort ltR d 0 d.size).toList ↔ x ∈ d.toList) ∧ QNK (insertionSort ltR d 0 d.size).toList:=by
 obtain ⟨⟨hsz,_,hperm⟩,hs⟩:=insertionSort_holds QEh d 0 d.size (Nat.zero_le _) (Nat.le_refl _)
 generalize insertionSort ltR d 0 d.size = d' at *
 have e1:d'.extract 0 d.size = d':=by rw [← hsz]; exact Array.extract_size
 rw [e1,Array.extract_size] at hperm
 refine ⟨fun x=>hperm.mem_iff,?_⟩
 have hn':d'.toList.Pairwise fun a b=>a.path ≠ b.path:=(hperm.pairwise_iff fun h e=>h e.symm).2 hn
 unfold QNK
 rw [List.pairwise_iff_getElem] at hn' ⊢
 intro i j hi hj hij
 have hi':i < d'.size:=by simpa using hi
 have hj':j < d'.size:=by simpa using hj
 have h3:=hs i j (Nat.zero_le _) hij (by omega)
 rw [getElem!_pos _ j hj',getElem!_pos _ i hi'] at h3
 have hne:=hn' i j hi hj hij
 simp only [Array.getElem_toList] at hne ⊢
 refine Decidable.byContradiction fun hlt=>hne ?_
 have hm:∀ (k:Nat) (hk:k < d'.size),QAd d'[k].path = true:=fun k hk=>h0 _ (hperm.mem_iff.1 (by simp))
 exact QKc (hm i hi') (hm j hj') hlt (by simpa [ltR] using h3)
structure AllOf (m:QAs) (l:List Rcd):Prop where
 mem:∀ r,r ∈ l ↔ QAb r = true ∧ QAv (QAw r.path) m = some (QBJ r)
 asc:QNK l
theorem AllOf.uniq {m:QAs} {l l':List Rcd} (h:AllOf m l) (h':AllOf m l'):l = l':=
 QMM h.asc h'.asc fun x=>by rw [h.mem,h'.mem]
theorem AllOf.congr {m m':QAs} {l:List Rcd} (h:AllOf m l) (he:∀ k,QAv k m = QAv k m'):AllOf m' l:=
 ⟨fun r=>by rw [h.mem,he],h.asc⟩
end Go.Ab
