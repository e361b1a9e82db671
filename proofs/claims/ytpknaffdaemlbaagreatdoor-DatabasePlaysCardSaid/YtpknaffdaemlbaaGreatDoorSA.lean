/- A layer of abstract values over the model, and what is proved with it: part SA. -/
import Derived.Test.YtpknaffdaemlbaaGreatDoorOX
import Derived.Test.YtpknaffdaemlbaaGreatDoorCX
import Derived.Test.YtpknaffdaemlbaaGreatDoorT2
import Derived.Sort.LotC
set_option maxRecDepth 20000
set_option maxHeartbeats 8000000
namespace Go.Ab
open Go Go.Proofs
def c130:AFn:=⟨(sq [(mv 13 1),(mv 8 13)] (sq [(z3 9 0)] (sq [(mv 14 2),(mv 15 1),(z9 16 .sub 14 15),(mv 10 16)] (.seq (sq [(mv 17 10),(z8 18 .sub 17 1),(z8 19 .quo 18 2),(mv 11 19)] (.block 0 (.loop (.seq (sq [(mv 20 11),(z8 21 .geq 20 0)] (cd 21 .skip (.exit 0))) (.seq (.block 1 (.ops [(mv 24 0),(mv 25 11),(mv 26 10),(mv 27 8),(mv 28 3),(ox 29 (fc 170 [(t 24),(t 25),(t 26),(t 27),(t 28)]))])) (.ops [(mv 22 11),(z8 23 .sub 22 1),(mv 11 23)])))))) (sq [(mv 30 10),(z8 31 .sub 30 1),(mv 12 31)] (.block 2 (.loop (.seq (sq [(mv 32 12),(z8 33 .geq 32 0)] (cd 33 .skip (.exit 2))) (.seq (.block 3 (.seq (.draw [(mv 36 0),(mv 37 8),(mv 38 0),(mv 39 8),(mv 40 12),(z9 41 .add 39 40),(mv 42 0),(mv 43 8),(mv 44 12),(z9 45 .add 43 44),(z6 46 12 42 45),(y1 47 12 46),(mv 48 0),(mv 49 8),(z6 50 12 48 49),(y1 51 12 50),(z6 52 12 36 37),(y5 12 52 47),(z6 53 12 38 41),(y5 12 53 51)] [0,0,0,0,0,24,0,0,0,384,960,1984,0,0,12288,28672,65475,131011,262143,524287]) (.ops [(mv 54 0),(mv 55 9),(mv 56 12),(mv 57 8),(mv 58 3),(ox 59 (fc 170 [(t 54),(t 55),(t 56),(t 57),(t 58)]))]))) (.ops [(mv 34 12),(z8 35 .sub 34 1),(mv 12 35)])))))))))),60,[]⟩
theorem c130_ok:QAE Tryz.prog [] 130 = some c130:=by kernel_rfl
def c131:AFn:=⟨(sq [(mv 13 2),(mv 14 1),(z9 15 .sub 13 14),(mv 8 15)] (sq [(mv 16 8),(z8 17 .geq 16 8)] (cd 17 (sq [(mv 18 8),(ox 19 (.conv .u64 (t 18))),(ox 9 (.alloc 208 [(.int .u64 0)])),(y6 9 19)] (sq [(mv 20 8),(y7 21 171 20),(mv 10 21)] (sq [(mv 22 1),(mv 23 8),(z8 24 .quo 23 4),(z8 25 .mul 24 2),(z9 26 .add 22 25),(z8 27 .sub 26 1),(mv 11 27)] (.block 0 (.loop (.seq (sq [(mv 28 11),(mv 29 1),(mv 30 8),(z8 31 .quo 30 4),(z8 32 .mul 31 2),(z9 33 .add 29 32),(z8 34 .add 33 1),(z9 35 .leq 28 34)] (cd 35 .skip (.exit 0))) (.seq (.block 1 (sq [(y7 38 172 9),(mv 39 10),(ox 40 (.bin .sub (t 39) (.v (.int .u64 1)))),(z9 41 .and 38 40),(ox 42 (.conv .i64 (t 41))),(mv 12 42)] (.seq (sq [(mv 43 12),(mv 44 8),(z9 45 .geq 43 44)] (cd 45 (.ops [(mv 46 12),(mv 47 8),(z9 48 .sub 46 47),(mv 12 48)]) .skip)) (.draw [(mv 49 0),(mv 50 11),(mv 51 0),(mv 52 1),(mv 53 12),(z9 54 .add 52 53),(mv 55 0),(mv 56 1),(mv 57 12),(z9 58 .add 56 57),(z6 59 12 55 58),(y1 60 12 59),(mv 61 0),(mv 62 11),(z6 63 12 61 62),(y1 64 12 63),(z6 65 12 49 50),(y5 12 65 60),(z6 66 12 51 54),(y5 12 66 64)] [0,0,0,0,0,24,0,0,0,384,960,1984,0,0,12288,28672,65475,131011,262143,524287])))) (.ops [(mv 36 11),(z8 37 .add 36 1),(mv 11 37)])))))))) .skip))),67,[]⟩
theorem c131_ok:QAE Tryz.prog [] 131 = some c131:=by kernel_rfl
def c132:AFn:=⟨(sq [(z3 8 0),(z3 9 0)] (sq [(mv 15 2),(mv 16 1),(z9 17 .sub 15 16),(mv 10 17)] (sq [(ox 11 (.alloc 3 [(.int .i64 0)]))] (sq [(mv 18 1),(mv 19 10),(z8 20 .quo 19 4),(z8 21 .mul 20 1),(z9 22 .add 18 21),(mv 12 22)] (sq [(mv 23 1),(mv 24 10),(z8 25 .quo 24 4),(z8 26 .mul 25 2),(z9 27 .add 23 26),(mv 13 27)] (sq [(mv 28 1),(mv 29 10),(z8 30 .quo 29 4),(z8 31 .mul 30 3),(z9 32 .add 28 31),(mv 14 32)] (.seq (sq [(mv 33 10),(z8 34 .geq 33 8)] (cd 34 (.seq (sq [(mv 35 10),(z8 36 .geq 35 50)] (cd 36 (sq [(mv 37 0),(mv 38 12),(mv 39 3),(ox 40 (fc 173 [(t 37),(t 38),(t 11),(t 39)])),(mv 12 40)] (sq [(mv 41 0),(mv 42 13),(mv 43 3),(ox 44 (fc 173 [(t 41),(t 42),(t 11),(t 43)])),(mv 13 44)] (.ops [(mv 45 0),(mv 46 14),(mv 47 3),(ox 48 (fc 173 [(t 45),(t 46),(t 11),(t 47)])),(mv 14 48)]))) .skip)) (.ops [(mv 49 0),(mv 50 12),(mv 51 13),(mv 52 14),(mv 53 3),(ox 54 (fc 174 [(t 49),(t 50),(t 51),(t 52),(t 11),(t 53)])),(mv 13 54)])) .skip)) (sq [(z2 55 11)] (.block 0 (sq [(z8 58 .eql 55 0),(mv 57 58)] (cd 57 (sq [(mv 59 13),(mv 8 59),(z3 9 1)] .ret) (sq [(z8 61 .eql 55 12),(mv 60 61)] (cd 60 (sq [(mv 62 13),(mv 8 62),(z3 9 2)] .ret) (sq [(mv 56 13),(mv 8 56),(z3 9 0)] .ret)))))))))))))),63,[(.tmp 8),(.tmp 9)]⟩
theorem c132_ok:QAE Tryz.prog [] 132 = some c132:=by kernel_rfl
def c133:AFn:=⟨(sq [(mv 10 1),(mv 8 10)] (sq [(mv 11 2),(z8 12 .sub 11 1),(mv 9 12)] (.block 0 (.loop (.seq (sq [(mv 13 8),(mv 14 9),(z9 15 .lss 13 14)] (cd 15 .skip (.exit 0))) (.block 1 (.seq (.draw [(mv 16 0),(mv 17 8),(mv 18 0),(mv 19 9),(mv 20 0),(mv 21 9),(z6 22 12 20 21),(y1 23 12 22),(mv 24 0),(mv 25 8),(z6 26 12 24 25),(y1 27 12 26),(z6 28 12 16 17),(y5 12 28 23),(z6 29 12 18 19),(y5 12 29 27)] [0,0,0,0,0,0,48,112,0,0,768,1792,4083,8179,16383,32767]) (sq [(mv 30 8),(z8 31 .add 30 1),(mv 8 31)] (.ops [(mv 32 9),(z8 33 .sub 32 1),(mv 9 33)]))))))))),34,[]⟩
theorem c133_ok:QAE Tryz.prog [] 133 = some c133:=by kernel_rfl
def c134:AFn:=⟨(sq [(y2 8)] (sq [(mv 13 1),(z8 14 .add 13 1),(mv 9 14)] (.seq (sq [(z3 10 0)] (.block 0 (.loop (.seq (sq [(mv 15 10),(z8 16 .lss 15 5)] (cd 16 .skip (.exit 0))) (.seq (.block 1 (.seq (.block 2 (.loop (.seq (.seq (.draw [(mv 19 9),(mv 20 2),(z9 21 .lss 19 20),(mv 22 21),(z4 23 3 22),(z4 24 0 22),(z4 25 9 22),(ot 26 (.iaddr none 12 (t 24) (t 25)) 22),(ot 27 (.load (some 12) (t 26)) 22),(z4 28 0 22),(z4 29 9 22),(ot 30 (b1 .sub 29 1) 22),(ot 31 (.iaddr none 12 (t 28) (t 30)) 22),(ot 32 (.load (some 12) (t 31)) 22),(ot 33 (.call (t 23) [(t 27),(t 32)]) 22),(ot 34 (b1 .lss 33 0) 22),(ot 35 (.un .not (t 34)) 22),(y3 36 22 35)] [0,0,3,7,15,15,15,111,239,15,15,1039,3599,7695,16383,32767,65535,131071]) (cd 36 .skip (.exit 2))) (.block 3 (.ops [(mv 37 9),(z8 38 .add 37 1),(mv 9 38)]))))) (.seq (sq [(mv 39 9),(mv 40 2),(z9 41 .eql 39 40)] (cd 41 (sq [(ox 8 (mb true))] .ret) .skip)) (.seq (sq [(mv 42 2),(mv 43 1),(z9 44 .sub 42 43),(z8 45 .lss 44 50)] (cd 45 (sq [(y2 8)] .ret) .skip)) (.seq (.draw [(mv 46 0),(mv 47 9),(mv 48 0),(mv 49 9),(z8 50 .sub 49 1),(mv 51 0),(mv 52 9),(z8 53 .sub 52 1),(z6 54 12 51 53),(y1 55 12 54),(mv 56 0),(mv 57 9),(z6 58 12 56 57),(y1 59 12 58),(z6 60 12 46 47),(y5 12 60 55),(z6 61 12 48 50),(y5 12 61 59)] [0,0,0,0,8,0,0,64,224,480,0,0,3072,7168,16355,32739,65535,131071]) (.seq (sq [(mv 62 9),(mv 63 1),(z9 64 .sub 62 63),(z8 65 .geq 64 2)] (cd 65 (sq [(mv 66 9),(z8 67 .sub 66 1),(mv 11 67)] (.block 4 (.loop (.seq (sq [(mv 68 11),(z8 69 .geq 68 1)] (cd 69 .skip (.exit 4))) (.seq (.block 5 (.seq (.seq (.draw [(mv 72 3),(mv 73 0),(mv 74 11),(z6 75 12 73 74),(y1 76 12 75),(mv 77 0),(mv 78 11),(z8 79 .sub 78 1),(z6 80 12 77 79),(y1 81 12 80),(ox 82 (.call (t 72) [(t 76),(t 81)])),(z8 83 .lss 82 0),(x5 84 83)] [0,0,0,6,14,0,0,64,224,480,1023,2047,4095]) (cd 84 (.exit 4) .skip)) (.draw [(mv 85 0),(mv 86 11),(mv 87 0),(mv 88 11),(z8 89 .sub 88 1),(mv 90 0),(mv 91 11),(z8 92 .sub 91 1),(z6 93 12 90 92),(y1 94 12 93),(mv 95 0),(mv 96 11),(z6 97 12 95 96),(y1 98 12 97),(z6 99 12 85 86),(y5 12 99 94),(z6 100 12 87 89),(y5 12 100 98)] [0,0,0,0,8,0,0,64,224,480,0,0,3072,7168,16355,32739,65535,131071]))) (.ops [(mv 70 11),(z8 71 .sub 70 1),(mv 11 71)])))))) .skip)) (sq [(mv 101 2),(mv 102 9),(z9 103 .sub 101 102),(z8 104 .geq 103 2)] (cd 104 (sq [(mv 105 9),(z8 106 .add 105 1),(mv 12 106)] (.block 6 (.loop (.seq (sq [(mv 107 12),(mv 108 2),(z9 109 .lss 107 108)] (cd 109 .skip (.exit 6))) (.seq (.block 7 (.seq (.seq (.draw [(mv 112 3),(mv 113 0),(mv 114 12),(z6 115 12 113 114),(y1 116 12 115),(mv 117 0),(mv 118 12),(z8 119 .sub 118 1),(z6 120 12 117 119),(y1 121 12 120),(ox 122 (.call (t 112) [(t 116),(t 121)])),(z8 123 .lss 122 0),(x5 124 123)] [0,0,0,6,14,0,0,64,224,480,1023,2047,4095]) (cd 124 (.exit 6) .skip)) (.draw [(mv 125 0),(mv 126 12),(mv 127 0),(mv 128 12),(z8 129 .sub 128 1),(mv 130 0),(mv 131 12),(z8 132 .sub 131 1),(z6 133 12 130 132),(y1 134 12 133),(mv 135 0),(mv 136 12),(z6 137 12 135 136),(y1 138 12 137),(z6 139 12 125 126),(y5 12 139 134),(z6 140 12 127 129),(y5 12 140 138)] [0,0,0,0,8,0,0,64,224,480,0,0,3072,7168,16355,32739,65535,131071]))) (.ops [(mv 110 12),(z8 111 .add 110 1),(mv 12 111)])))))) .skip)))))))) (.ops [(mv 17 10),(z8 18 .add 17 1),(mv 10 18)])))))) (sq [(y2 8)] .ret)))),141,[(.tmp 8)]⟩
theorem c134_ok:QAE Tryz.prog [] 134 = some c134:=by kernel_rfl
def c135:AFn:=⟨(sq [(z3 10 0)] (.seq (.draw [(mv 13 0),(mv 14 1),(mv 15 0),(mv 16 3),(mv 17 0),(mv 18 3),(z6 19 12 17 18),(y1 20 12 19),(mv 21 0),(mv 22 1),(z6 23 12 21 22),(y1 24 12 23),(z6 25 12 13 14),(y5 12 25 20),(z6 26 12 15 16),(y5 12 26 24)] [0,0,0,0,0,0,48,112,0,0,768,1792,4083,8179,16383,32767]) (sq [(mv 27 1),(z8 28 .add 27 1),(mv 29 2),(z8 30 .sub 29 1),(mv 11 28),(mv 12 30)] (.seq (.block 0 (.loop (.block 1 (.seq (.block 2 (.loop (.seq (.seq (.draw [(mv 31 11),(mv 32 12),(z9 33 .leq 31 32),(mv 34 33),(z4 35 4 34),(z4 36 0 34),(z4 37 1 34),(ot 38 (.iaddr none 12 (t 36) (t 37)) 34),(ot 39 (.load (some 12) (t 38)) 34),(z4 40 0 34),(z4 41 11 34),(ot 42 (.iaddr none 12 (t 40) (t 41)) 34),(ot 43 (.load (some 12) (t 42)) 34),(ot 44 (.call (t 35) [(t 39),(t 43)]) 34),(ot 45 (b1 .lss 44 0) 34),(ot 46 (.un .not (t 45)) 34),(y3 47 34 46)] [0,0,3,7,15,15,15,111,239,15,15,1551,3599,8191,16383,32767,65535]) (cd 47 .skip (.exit 2))) (.block 3 (.ops [(mv 48 11),(z8 49 .add 48 1),(mv 11 49)]))))) (.seq (.block 4 (.loop (.seq (.seq (.draw [(mv 50 11),(mv 51 12),(z9 52 .leq 50 51),(mv 53 52),(z4 54 4 53),(z4 55 0 53),(z4 56 1 53),(ot 57 (.iaddr none 12 (t 55) (t 56)) 53),(ot 58 (.load (some 12) (t 57)) 53),(z4 59 0 53),(z4 60 12 53),(ot 61 (.iaddr none 12 (t 59) (t 60)) 53),(ot 62 (.load (some 12) (t 61)) 53),(ot 63 (.call (t 54) [(t 58),(t 62)]) 53),(ot 64 (b1 .lss 63 0) 53),(y3 65 53 64)] [0,0,3,7,15,15,15,111,239,15,15,1551,3599,8191,16383,32767]) (cd 65 .skip (.exit 4))) (.block 5 (.ops [(mv 66 12),(z8 67 .sub 66 1),(mv 12 67)]))))) (.seq (sq [(mv 68 11),(mv 69 12),(z9 70 .gtr 68 69)] (cd 70 (.exit 0) .skip)) (.seq (.draw [(mv 71 0),(mv 72 11),(mv 73 0),(mv 74 12),(mv 75 0),(mv 76 12),(z6 77 12 75 76),(y1 78 12 77),(mv 79 0),(mv 80 11),(z6 81 12 79 80),(y1 82 12 81),(z6 83 12 71 72),(y5 12 83 78),(z6 84 12 73 74),(y5 12 84 82)] [0,0,0,0,0,0,48,112,0,0,768,1792,4083,8179,16383,32767]) (sq [(mv 85 11),(z8 86 .add 85 1),(mv 11 86)] (.ops [(mv 87 12),(z8 88 .sub 87 1),(mv 12 88)]))))))))) (sq [(mv 89 11),(mv 10 89)] .ret))))),90,[(.tmp 10)]⟩
theorem c135_ok:QAE Tryz.prog [] 135 = some c135:=by kernel_rfl
def c136:AFn:=⟨(sq [(z3 10 0),(y2 11)] (.seq (.draw [(mv 14 0),(mv 15 1),(mv 16 0),(mv 17 3),(mv 18 0),(mv 19 3),(z6 20 12 18 19),(y1 21 12 20),(mv 22 0),(mv 23 1),(z6 24 12 22 23),(y1 25 12 24),(z6 26 12 14 15),(y5 12 26 21),(z6 27 12 16 17),(y5 12 27 25)] [0,0,0,0,0,0,48,112,0,0,768,1792,4083,8179,16383,32767]) (sq [(mv 28 1),(z8 29 .add 28 1),(mv 30 2),(z8 31 .sub 30 1),(mv 12 29),(mv 13 31)] (.seq (.block 0 (.loop (.seq (.seq (.draw [(mv 32 12),(mv 33 13),(z9 34 .leq 32 33),(mv 35 34),(z4 36 4 35),(z4 37 0 35),(z4 38 12 35),(ot 39 (.iaddr none 12 (t 37) (t 38)) 35),(ot 40 (.load (some 12) (t 39)) 35),(z4 41 0 35),(z4 42 1 35),(ot 43 (.iaddr none 12 (t 41) (t 42)) 35),(ot 44 (.load (some 12) (t 43)) 35),(ot 45 (.call (t 36) [(t 40),(t 44)]) 35),(ot 46 (b1 .lss 45 0) 35),(y3 47 35 46)] [0,0,3,7,15,15,15,111,239,15,15,1551,3599,8191,16383,32767]) (cd 47 .skip (.exit 0))) (.block 1 (.ops [(mv 48 12),(z8 49 .add 48 1),(mv 12 49)]))))) (.seq (.block 2 (.loop (.seq (.seq (.draw [(mv 50 12),(mv 51 13),(z9 52 .leq 50 51),(mv 53 52),(z4 54 4 53),(z4 55 0 53),(z4 56 13 53),(ot 57 (.iaddr none 12 (t 55) (t 56)) 53),(ot 58 (.load (some 12) (t 57)) 53),(z4 59 0 53),(z4 60 1 53),(ot 61 (.iaddr none 12 (t 59) (t 60)) 53),(ot 62 (.load (some 12) (t 61)) 53),(ot 63 (.call (t 54) [(t 58),(t 62)]) 53),(ot 64 (b1 .lss 63 0) 53),(ot 65 (.un .not (t 64)) 53),(y3 66 53 65)] [0,0,3,7,15,15,15,111,239,15,15,1551,3599,8191,16383,32767,65535]) (cd 66 .skip (.exit 2))) (.block 3 (.ops [(mv 67 13),(z8 68 .sub 67 1),(mv 13 68)]))))) (.seq (sq [(mv 69 12),(mv 70 13),(z9 71 .gtr 69 70)] (cd 71 (.seq (.draw [(mv 72 0),(mv 73 13),(mv 74 0),(mv 75 1),(mv 76 0),(mv 77 1),(z6 78 12 76 77),(y1 79 12 78),(mv 80 0),(mv 81 13),(z6 82 12 80 81),(y1 83 12 82),(z6 84 12 72 73),(y5 12 84 79),(z6 85 12 74 75),(y5 12 85 83)] [0,0,0,0,0,0,48,112,0,0,768,1792,4083,8179,16383,32767]) (sq [(mv 86 13),(mv 10 86),(ox 11 (mb true))] .ret)) .skip)) (.seq (.draw [(mv 87 0),(mv 88 12),(mv 89 0),(mv 90 13),(mv 91 0),(mv 92 13),(z6 93 12 91 92),(y1 94 12 93),(mv 95 0),(mv 96 12),(z6 97 12 95 96),(y1 98 12 97),(z6 99 12 87 88),(y5 12 99 94),(z6 100 12 89 90),(y5 12 100 98)] [0,0,0,0,0,0,48,112,0,0,768,1792,4083,8179,16383,32767]) (sq [(mv 101 12),(z8 102 .add 101 1),(mv 12 102)] (sq [(mv 103 13),(z8 104 .sub 103 1),(mv 13 104)] (.seq (.block 4 (.loop (.block 5 (.seq (.block 6 (.loop (.seq (.seq (.draw [(mv 105 12),(mv 106 13),(z9 107 .leq 105 106),(mv 108 107),(z4 109 4 108),(z4 110 0 108),(z4 111 12 108),(ot 112 (.iaddr none 12 (t 110) (t 111)) 108),(ot 113 (.load (some 12) (t 112)) 108),(z4 114 0 108),(z4 115 1 108),(ot 116 (.iaddr none 12 (t 114) (t 115)) 108),(ot 117 (.load (some 12) (t 116)) 108),(ot 118 (.call (t 109) [(t 113),(t 117)]) 108),(ot 119 (b1 .lss 118 0) 108),(y3 120 108 119)] [0,0,3,7,15,15,15,111,239,15,15,1551,3599,8191,16383,32767]) (cd 120 .skip (.exit 6))) (.block 7 (.ops [(mv 121 12),(z8 122 .add 121 1),(mv 12 122)]))))) (.seq (.block 8 (.loop (.seq (.seq (.draw [(mv 123 12),(mv 124 13),(z9 125 .leq 123 124),(mv 126 125),(z4 127 4 126),(z4 128 0 126),(z4 129 13 126),(ot 130 (.iaddr none 12 (t 128) (t 129)) 126),(ot 131 (.load (some 12) (t 130)) 126),(z4 132 0 126),(z4 133 1 126),(ot 134 (.iaddr none 12 (t 132) (t 133)) 126),(ot 135 (.load (some 12) (t 134)) 126),(ot 136 (.call (t 127) [(t 131),(t 135)]) 126),(ot 137 (b1 .lss 136 0) 126),(ot 138 (.un .not (t 137)) 126),(y3 139 126 138)] [0,0,3,7,15,15,15,111,239,15,15,1551,3599,8191,16383,32767,65535]) (cd 139 .skip (.exit 8))) (.block 9 (.ops [(mv 140 13),(z8 141 .sub 140 1),(mv 13 141)]))))) (.seq (sq [(mv 142 12),(mv 143 13),(z9 144 .gtr 142 143)] (cd 144 (.exit 4) .skip)) (.seq (.draw [(mv 145 0),(mv 146 12),(mv 147 0),(mv 148 13),(mv 149 0),(mv 150 13),(z6 151 12 149 150),(y1 152 12 151),(mv 153 0),(mv 154 12),(z6 155 12 153 154),(y1 156 12 155),(z6 157 12 145 146),(y5 12 157 152),(z6 158 12 147 148),(y5 12 158 156)] [0,0,0,0,0,0,48,112,0,0,768,1792,4083,8179,16383,32767]) (sq [(mv 159 12),(z8 160 .add 159 1),(mv 12 160)] (.ops [(mv 161 13),(z8 162 .sub 161 1),(mv 13 162)]))))))))) (.seq (.draw [(mv 163 0),(mv 164 13),(mv 165 0),(mv 166 1),(mv 167 0),(mv 168 1),(z6 169 12 167 168),(y1 170 12 169),(mv 171 0),(mv 172 13),(z6 173 12 171 172),(y1 174 12 173),(z6 175 12 163 164),(y5 12 175 170),(z6 176 12 165 166),(y5 12 176 174)] [0,0,0,0,0,0,48,112,0,0,768,1792,4083,8179,16383,32767]) (sq [(mv 177 13),(mv 10 177),(y2 11)] .ret)))))))))))),178,[(.tmp 10),(.tmp 11)]⟩
theorem c136_ok:QAE Tryz.prog [] 136 = some c136:=by kernel_rfl
def c170:AFn:=⟨(sq [(mv 12 1),(mv 10 12)] (.block 0 (.loop (.block 1 (sq [(mv 13 10),(ox 14 (.bin .mul (iv 2) (t 13))),(z8 15 .add 14 1),(mv 11 15)] (.seq (sq [(mv 16 11),(mv 17 2),(z9 18 .geq 16 17)] (cd 18 (.exit 0) .skip)) (.seq (.seq (.draw [(mv 19 11),(z8 20 .add 19 1),(mv 21 2),(z9 22 .lss 20 21),(mv 23 22),(z4 24 4 23),(z4 25 0 23),(z4 26 3 23),(z4 27 11 23),(ot 28 (b2 .add 26 27) 23),(ot 29 (.iaddr none 12 (t 25) (t 28)) 23),(ot 30 (.load (some 12) (t 29)) 23),(z4 31 0 23),(z4 32 3 23),(z4 33 11 23),(ot 34 (b2 .add 32 33) 23),(ot 35 (b1 .add 34 1) 23),(ot 36 (.iaddr none 12 (t 31) (t 35)) 23),(ot 37 (.load (some 12) (t 36)) 23),(ot 38 (.call (t 24) [(t 30),(t 37)]) 23),(ot 39 (b1 .lss 38 0) 23),(y3 40 23 39)] [0,1,0,7,15,31,31,31,31,415,991,2015,31,31,31,24607,57375,127007,258079,524287,1048575,2097151]) (cd 40 (.ops [(mv 41 11),(z8 42 .add 41 1),(mv 11 42)]) .skip)) (.seq (.seq (.draw [(mv 43 4),(mv 44 0),(mv 45 3),(mv 46 10),(z9 47 .add 45 46),(z6 48 12 44 47),(y1 49 12 48),(mv 50 0),(mv 51 3),(mv 52 11),(z9 53 .add 51 52),(z6 54 12 50 53),(y1 55 12 54),(ox 56 (.call (t 43) [(t 49),(t 55)])),(z8 57 .lss 56 0),(x5 58 57)] [0,0,0,0,12,30,62,0,0,0,768,1920,3968,8191,16383,32767]) (cd 58 .ret .skip)) (.seq (.draw [(mv 59 0),(mv 60 3),(mv 61 10),(z9 62 .add 60 61),(mv 63 0),(mv 64 3),(mv 65 11),(z9 66 .add 64 65),(mv 67 0),(mv 68 3),(mv 69 11),(z9 70 .add 68 69),(z6 71 12 67 70),(y1 72 12 71),(mv 73 0),(mv 74 3),(mv 75 10),(z9 76 .add 74 75),(z6 77 12 73 76),(y1 78 12 77),(z6 79 12 59 62),(y5 12 79 72),(z6 80 12 63 66),(y5 12 80 78)] [0,0,0,6,0,0,0,96,0,0,0,1536,3840,7936,0,0,0,98304,245760,507904,1048335,2096911,4194303,8388607]) (.ops [(mv 81 11),(mv 10 81)])))))))))),82,[]⟩
theorem c170_ok:QAE Tryz.prog [] 170 = some c170:=by kernel_rfl
def c171:AFn:=⟨(sq [(ox 2 (.mov (.v (.int .u64 0))))] (sq [(mv 3 0),(ox 4 (.conv .u64 (t 3))),(y7 5 95 4),(ox 6 (.ext (.shift true) [(.v (.int .u64 1)),(t 5)])),(mv 2 6)] .ret)),7,[(.tmp 2)]⟩
theorem c171_ok:QAE Tryz.prog [] 171 = some c171:=by kernel_rfl
def c172:AFn:=⟨(sq [(ox 2 (.mov (.v (.int .u64 0))))] (.seq (.draw [(mv 3 0),(x3 4 3),(z2 5 4),(mv 6 0),(x3 7 6),(z2 8 7),(ox 9 (.ext (.shift true) [(t 8),(.v (.int .u64 13))])),(z9 10 .xor 5 9),(x3 11 3),(y6 11 10)] [0,1,3,0,8,24,56,127,255,511]) (.seq (.draw [(mv 12 0),(x3 13 12),(z2 14 13),(mv 15 0),(x3 16 15),(z2 17 16),(ox 18 (.ext (.shift false) [(t 17),(.v (.int .u64 7))])),(z9 19 .xor 14 18),(x3 20 12),(y6 20 19)] [0,1,3,0,8,24,56,127,255,511]) (.seq (.draw [(mv 21 0),(x3 22 21),(z2 23 22),(mv 24 0),(x3 25 24),(z2 26 25),(ox 27 (.ext (.shift true) [(t 26),(.v (.int .u64 17))])),(z9 28 .xor 23 27),(x3 29 21),(y6 29 28)] [0,1,3,0,8,24,56,127,255,511]) (sq [(mv 30 0),(x3 31 30),(z2 32 31),(mv 2 32)] .ret))))),33,[(.tmp 2)]⟩
theorem c172_ok:QAE Tryz.prog [] 172 = some c172:=by kernel_rfl
def c173:AFn:=⟨(sq [(z3 8 0)] (sq [(mv 9 0),(mv 10 1),(z8 11 .sub 10 1),(mv 12 1),(mv 13 1),(z8 14 .add 13 1),(mv 15 2),(mv 16 3),(ox 17 (fc 174 [(t 9),(t 11),(t 12),(t 14),(t 15),(t 16)])),(mv 8 17)] .ret)),18,[(.tmp 8)]⟩
theorem c173_ok:QAE Tryz.prog [] 173 = some c173:=by kernel_rfl
def c174:AFn:=⟨(sq [(z3 12 0)] (sq [(mv 14 0),(mv 15 1),(mv 16 2),(mv 17 4),(mv 18 5),(ox 19 (fc 199 [(t 14),(t 15),(t 16),(t 17),(t 18)])),(mv 13 19),(z7 20 13 0),(z7 21 13 1),(mv 1 20),(mv 2 21)] (sq [(mv 23 0),(mv 24 2),(mv 25 3),(mv 26 4),(mv 27 5),(ox 28 (fc 199 [(t 23),(t 24),(t 25),(t 26),(t 27)])),(mv 22 28),(z7 29 22 0),(z7 30 22 1),(mv 2 29),(mv 3 30)] (sq [(mv 32 0),(mv 33 1),(mv 34 2),(mv 35 4),(mv 36 5),(ox 37 (fc 199 [(t 32),(t 33),(t 34),(t 35),(t 36)])),(mv 31 37),(z7 38 31 0),(z7 39 31 1),(mv 1 38),(mv 2 39)] (sq [(mv 40 2),(mv 12 40)] .ret))))),41,[(.tmp 12)]⟩
theorem c174_ok:QAE Tryz.prog [] 174 = some c174:=by kernel_rfl
def c199:AFn:=⟨(sq [(z3 10 0),(z3 11 0)] (.seq (.seq (.draw [(mv 12 4),(mv 13 0),(mv 14 2),(z6 15 12 13 14),(y1 16 12 15),(mv 17 0),(mv 18 1),(z6 19 12 17 18),(y1 20 12 19),(ox 21 (.call (t 12) [(t 16),(t 20)])),(z8 22 .lss 21 0)] [0,0,0,6,14,0,0,96,224,511,1023]) (cd 22 (sq [(mv 23 3),(x3 24 23),(z2 25 24),(z8 26 .add 25 1),(x3 27 23),(y6 27 26)] (sq [(mv 28 2),(mv 29 1),(mv 10 28),(mv 11 29)] .ret)) .skip)) (sq [(mv 30 1),(mv 31 2),(mv 10 30),(mv 11 31)] .ret))),32,[(.tmp 10),(.tmp 11)]⟩
theorem c199_ok:QAE Tryz.prog [] 199 = some c199:=by kernel_rfl
end Go.Ab
namespace Go.Ab
open Go Go.Proofs Go.Sort
theorem QAW {d:Array Rcd} {j:Nat} (hj:j < d.size) (h:j < (rows d).length):(rows d)[j]'h = QAU d[j]!:=by
 have:=QLV hj
 rw [List.getElem?_eq_getElem h] at this
 exact Option.some.inj this
def swO (s:Nat):AObj:=.box 3 [.int .i64 s]
theorem QIy (d:Array Rcd) (a b s:Nat) (h0:okP d) (ha:a < d.size) (hb:b < d.size) (hs:s < 1000000):
  ACalls Tryz.prog 199 [.own 0 d.size,.int .i64 a,.int .i64 b,.ptr 1 0,.fn (.func 60) [] []] [rgO d,swO s]
   (.tup [.int .i64 (order2 ltR d a b s).1,.int .i64 (order2 ltR d a b s).2.1]) [rgO d,swO (order2 ltR d a b s).2.2]:=by
 have hle:=QBH d
 have ga:=QAW ha (by rw [hle]; exact ha)
 have gb:=QAW hb (by rw [hle]; exact hb)
 have pa:=QA9 h0 ha
 have pb:=QA9 h0 hb
 have cl:=QDH _ _ pb pa
 have w:IntKind.i64.wrap ((s:Int) + 1) = s + 1:=w64 (by omega) (by omega)
 obtain ⟨n,hN⟩:∃ n,n = d.size:=⟨_,rfl⟩
 rw [← hN] at ha hb hle ⊢
 refine QAF c199_ok rfl ?_
 unfold c199 rgO swO order2
 simp +decide -dsimp -implicitDefEqProofs [go_sem,hle,ha,hb,ga,gb,QAN,QAP]
 refine QAO cl (by simp +decide -dsimp -implicitDefEqProofs [go_sem,QAg]) rfl ?_
 by_cases hlt:QEv d[b]!.path d[a]!.path < 0
 ·have e:ltR d[b]! d[a]! = true:=by simpa [ltR] using hlt
  rw [if_pos e]
  simp +decide -dsimp -implicitDefEqProofs [go_sem,hlt,w]
  exact QAG _ _
 ·have e:¬ ltR d[b]! d[a]! = true:=by simpa [ltR] using hlt
  rw [if_neg e]
  simp +decide -dsimp -implicitDefEqProofs [go_sem,hlt]
  exact QAG _ _
theorem QHO (d:Array Rcd) {a b s n:Nat} (ha:a < n) (hb:b < n):(order2 ltR d a b s).1 < n ∧ (order2 ltR d a b s).2.1 < n ∧ (order2 ltR d a b s).2.2 ≤ s + 1:=by
 unfold order2
 split
 ·exact ⟨hb,ha,Nat.le_refl _⟩
 ·exact ⟨ha,hb,Nat.le_succ _⟩
theorem QIz (d:Array Rcd) (a b c s:Nat) (h0:okP d) (ha:a < d.size) (hb:b < d.size) (hc:c < d.size) (hs:s < 900000):
  ACalls Tryz.prog 174 [.own 0 d.size,.int .i64 a,.int .i64 b,.int .i64 c,.ptr 1 0,.fn (.func 60) [] []] [rgO d,swO s]
   (.int .i64 (median ltR d a b c s).1) [rgO d,swO (median ltR d a b c s).2] ∧ (median ltR d a b c s).1 < d.size ∧ (median ltR d a b c s).2 ≤ s + 3:=by
 obtain ⟨b1,b2,b3⟩:=QHO d (s:=s) ha hb
 have c1:=QIy d a b s h0 ha hb (by omega)
 unfold median
 generalize order2 ltR d a b s = r1 at c1 b1 b2 b3
 obtain ⟨x1,y1,s1⟩:=r1
 simp only at c1 b1 b2 b3
 obtain ⟨b4,b5,b6⟩:=QHO d (s:=s1) b2 hc
 have c2:=QIy d y1 c s1 h0 b2 hc (by omega)
 simp only
 generalize order2 ltR d y1 c s1 = r2 at c2 b4 b5 b6
 obtain ⟨x2,y2,s2⟩:=r2
 simp only at c2 b4 b5 b6
 obtain ⟨b7,b8,b9⟩:=QHO d (s:=s2) b1 b4
 have c3:=QIy d x1 x2 s2 h0 b1 b4 (by omega)
 simp only
 generalize order2 ltR d x1 x2 s2 = r3 at c3 b7 b8 b9
 obtain ⟨x3,y3,s3⟩:=r3
 simp only at c3 b7 b8 b9 ⊢
 refine ⟨?_,b8,by omega⟩
 have hrr:=QDQ
 refine QAF c174_ok rfl ?_
 unfold c174
 unfold rgO swO at *
 simp +decide -dsimp -implicitDefEqProofs [go_sem]
 refine QAB [0,1] c1 rfl rfl (by simp) (by simp +decide -dsimp -implicitDefEqProofs [go_sem]) (by simp +decide -dsimp -implicitDefEqProofs [go_sem,hrr]) ?_
 simp +decide -dsimp -implicitDefEqProofs [go_sem,hrr]
 refine QAB [0,1] c2 rfl rfl (by simp) (by simp +decide -dsimp -implicitDefEqProofs [go_sem]) (by simp +decide -dsimp -implicitDefEqProofs [go_sem,hrr]) ?_
 simp +decide -dsimp -implicitDefEqProofs [go_sem,hrr]
 refine QAB [0,1] c3 rfl rfl (by simp) (by simp +decide -dsimp -implicitDefEqProofs [go_sem]) (by simp +decide -dsimp -implicitDefEqProofs [go_sem,hrr]) ?_
 simp +decide -dsimp -implicitDefEqProofs [go_sem,hrr]
 exact QAG _ _
theorem QI0 (d:Array Rcd) (a s:Nat) (h0:okP d) (h1:1 ≤ a) (ha:a + 1 < d.size) (hs:s < 900000) (hn:d.size < 1000000):
  ACalls Tryz.prog 173 [.own 0 d.size,.int .i64 a,.ptr 1 0,.fn (.func 60) [] []] [rgO d,swO s]
   (.int .i64 (medianAdjacent ltR d a s).1) [rgO d,swO (medianAdjacent ltR d a s).2] ∧ (medianAdjacent ltR d a s).1 < d.size ∧ (medianAdjacent ltR d a s).2 ≤ s + 3:=by
 obtain ⟨c1,b1,b2⟩:=QIz d (a - 1) a (a + 1) s h0 (by omega) (by omega) ha hs
 unfold medianAdjacent
 refine ⟨?_,b1,b2⟩
 generalize median ltR d (a - 1) a (a + 1) s = r at c1
 have hrr:=QDQ
 have w1:IntKind.i64.wrap ((a:Int) - 1) = ((a - 1:Nat):Int):=by rw [w64 (by omega) (by omega)]; omega
 have w2:IntKind.i64.wrap ((a:Int) + 1) = (a:Int) + 1:=w64 (by omega) (by omega)
 refine QAF c173_ok rfl ?_
 unfold c173
 unfold rgO swO at *
 simp +decide -dsimp -implicitDefEqProofs [go_sem,w1,w2]
 refine QAB [0,1] c1 rfl rfl (by simp) (by simp +decide -dsimp -implicitDefEqProofs [go_sem]) (by simp +decide -dsimp -implicitDefEqProofs [go_sem,hrr]) ?_
 simp +decide -dsimp -implicitDefEqProofs [go_sem,hrr]
 exact QAG _ _
end Go.Ab
namespace Go.Ab
open Go Go.Proofs Go.Sort
theorem QAq {d:Array Rcd} {x:Rcd} {i j:Nat} (h:j < ((rows d).set i (QAU x)).length):(((rows d).set i (QAU x))[j]'h).length = 12:=by
 rw [List.getElem_set]
 split
 ·rfl
 ·have hj:j < d.size:=by rw [List.length_set,QBH] at h; exact h
  rw [QAW hj]; rfl
theorem QAm {d:Array Rcd} {x:Rcd} {i j:Nat} (h:j < ((rows d).set i (QAU x)).length):(((rows d).set i (QAU x))[j]'h).drop 12 = []:=
 List.drop_of_length_le (Nat.le_of_eq (QAq h))
theorem QN2 (d0:Array Rcd) (a b:Nat) (hn:d0.size ≤ 100000) (h0:okP d0) (ha:1 ≤ b) (hb:b ≤ d0.size):
  ACalls Tryz.prog 133 [.own 0 d0.size,.int .i64 a,.int .i64 b,.fn (.func 60) [] []] [rgO d0] (.tup []) [rgO (reverseRange d0 a b)] ∧ okP (reverseRange d0 a b):=by
 have hok:∀ (k i j:Nat) (d:Array Rcd),j - i ≤ k → okP d → j < d.size → okP (reverseLoop i j d):=by
  intro k
  induction k with
  | zero=>intro i j d hk h hj; rw [reverseLoop,if_neg (by omega)]; exact h
  | succ k ih=>
   intro i j d hk h hj
   rw [reverseLoop]
   split
   ·exact ih _ _ _ (by omega) (QBj h (by omega) hj) (by rw [QA2]; omega)
   ·exact h
 refine ⟨?_,hok _ _ _ _ (Nat.le_refl _) h0 (by omega)⟩
 unfold reverseRange
 obtain ⟨n,hN⟩:∃ n,n = d0.size:=⟨_,rfl⟩
 rw [← hN] at hn hb ⊢
 have wb:IntKind.i64.wrap ((b:Int) - 1) = ((b - 1:Nat):Int):=by rw [w64 (by omega) (by omega)]; omega
 refine QAF c133_ok rfl ?_
 unfold c133 rgO
 simp +decide -dsimp -implicitDefEqProofs [go_sem,wb]
 refine QAR (S:=Nat × Nat × Array Rcd) (fun s=>⟨tmps 34 [(0,.own 0 n),(8,.int .i64 s.1),(9,.int .i64 s.2.1)],[.reg 34 12 (rows s.2.2)]⟩) (fun s=>s.2.1 - s.1)
  (fun s=>s.2.1 < n ∧ s.2.2.size = n ∧ reverseLoop a (b - 1) d0 = reverseLoop s.1 s.2.1 s.2.2) (a,b - 1,d0) ⟨by show b - 1 < n; omega,hN.symm,rfl⟩ (QAD (by simp) ?_) ?_
 ·simp +decide -dsimp -implicitDefEqProofs [go_sem]
  exact QAG _ _
 rintro ⟨i,j,d⟩ ⟨hj,hd,hs⟩
 simp only at hj hd hs
 have hle:(rows d).length = n:=by rw [QBH,hd]
 by_cases h:i < j
 ·have hi:i < n:=by omega
  have gi:=QAW (d:=d) (j:=i) (by omega) (by omega)
  have gj:=QAW (d:=d) (j:=j) (by omega) (by omega)
  have hsw:=QBd d i j
  have w1:IntKind.i64.wrap ((i:Int) + 1) = i + 1:=w64 (by omega) (by omega)
  have w2:IntKind.i64.wrap ((j:Int) - 1) = ((j - 1:Nat):Int):=by rw [w64 (by omega) (by omega)]; omega
  conv at hs=>rhs; rw [reverseLoop,if_pos h]
  simp +decide -dsimp -implicitDefEqProofs [go_sem,h,hle,hi,hj,gi,gj,QAN,QAP,QA3,QAq,QAm,w1,w2]
  rw [hsw]
  refine QAI (i + 1,j - 1,swp d i j) ⟨by show j - 1 < n; omega,by show (swp d i j).size = n; rw [QA2,hd],hs⟩ (by show j - 1 - (i + 1) < j - i; omega) (QAD (by simp) ?_)
  simp +decide -dsimp -implicitDefEqProofs [go_sem]
  exact QAG _ _
 ·conv at hs=>rhs; rw [reverseLoop,if_neg h]
  rw [hs]
  simp +decide -dsimp -implicitDefEqProofs [go_sem,h]
  exact QAG _ _
theorem QJ5 (d0:Array Rcd) (a b:Nat) (hn:d0.size ≤ 100000) (h0:okP d0) (hab:a ≤ b) (hb:b ≤ d0.size):
  ACalls Tryz.prog 129 [.own 0 d0.size,.int .i64 a,.int .i64 b,.fn (.func 60) [] []] [rgO d0] (.tup []) [rgO (insertionSort ltR d0 a b)]:=by
 obtain ⟨n,hN⟩:∃ n,n = d0.size:=⟨_,rfl⟩
 rw [← hN] at hn hb ⊢
 have wa:IntKind.i64.wrap ((a:Int) + 1) = ((a + 1:Nat):Int):=by rw [w64 (by omega) (by omega)]; omega
 refine QAF c129_ok rfl ?_
 unfold c129 rgO
 simp +decide -dsimp -implicitDefEqProofs [go_sem,wa]
 refine QAR (S:=Nat × Array Rcd) (fun s=>⟨tmps 53 [(0,.own 0 n),(1,.int .i64 a),(2,.int .i64 b),(3,.fn (.func 60) [] []),(8,.int .i64 s.1)],[.reg 34 12 (rows s.2)]⟩) (fun s=>b - s.1)
  (fun s=>a + 1 ≤ s.1 ∧ s.2.size = n ∧ okP s.2 ∧ insertionSort ltR d0 a b = insOuter ltR a b s.1 s.2) (a + 1,d0) ⟨Nat.le_refl _,hN.symm,h0,rfl⟩ (QAD (by simp) ?_) ?_
 ·simp +decide -dsimp -implicitDefEqProofs [go_sem]
  exact QAG _ _
 rintro ⟨i,d⟩ ⟨hi,hd,hok,hs⟩
 simp only at hi hd hok hs
 by_cases h:i < b
 ·conv at hs=>rhs; rw [insOuter,if_pos h]
  have wi:IntKind.i64.wrap ((i:Int) + 1) = i + 1:=w64 (by omega) (by omega)
  simp +decide -dsimp -implicitDefEqProofs [go_sem,h]
  refine QAR (S:=Nat × Array Rcd) (fun s=>⟨tmps 53 [(0,.own 0 n),(1,.int .i64 a),(2,.int .i64 b),(3,.fn (.func 60) [] []),(8,.int .i64 i),(9,.int .i64 s.1)],[.reg 34 12 (rows s.2)]⟩) (fun s=>s.1)
   (fun s=>s.1 ≤ i ∧ s.2.size = n ∧ okP s.2 ∧ insInner ltR a i d = insInner ltR a s.1 s.2) (i,d) ⟨Nat.le_refl _,hd,hok,rfl⟩ (QAD (by simp) ?_) ?_
  ·simp +decide -dsimp -implicitDefEqProofs [go_sem]
   exact QAG _ _
  rintro ⟨j,e⟩ ⟨hj,he,hoe,hse⟩
  simp only at hj he hoe hse
  by_cases hja:a < j
  ·obtain ⟨m,rfl⟩:∃ m,j = m + 1:=⟨j - 1,by omega⟩
   have hle:(rows e).length = n:=by rw [QBH,he]
   have hm1:m + 1 < n:=by omega
   have hm:m < n:=by omega
   have a1:=QAW (d:=e) (j:=m + 1) (by omega) (by omega)
   have a0:=QAW (d:=e) (j:=m) (by omega) (by omega)
   have hz:(0:Int) ≤ (m:Int) + 1:=by omega
   have hja':(a:Int) < (m:Int) + 1:=by omega
   have p1:=QA9 hoe (j:=m + 1) (by omega)
   have p0:=QA9 hoe (j:=m) (by omega)
   have cl:=QDH _ _ p1 p0
   have w:IntKind.i64.wrap (m:Int) = (m:Int):=w64 (by omega) (by omega)
   have hsw:=QBd e (m + 1) m
   have hso:=QBj hoe (i:=m + 1) (j:=m) (by omega) (by omega)
   have hgt:(decide (m + 1 > a)) = true:=decide_eq_true hja
   conv at hse=>rhs; rw [insInner,hgt,Bool.true_and]
   simp +decide -dsimp -implicitDefEqProofs [go_sem,w,hz,hle,hm,hm1,a0,a1,QAN,QAP,hja']
   refine QAO cl (by simp +decide -dsimp -implicitDefEqProofs [go_sem,QAg]) rfl ?_
   by_cases hlt:QEv e[m + 1]!.path e[m]!.path < 0
   ·conv at hse=>rhs; rw [if_pos (by simpa [ltR] using hlt)]
    simp +decide -dsimp -implicitDefEqProofs [go_sem,w,hz,hle,hm,hm1,a0,a1,QAN,QAP,QA3,hlt]
    rw [hsw]
    refine QAI (m,swp e (m + 1) m) ⟨by show m ≤ i; omega,by show (swp e (m + 1) m).size = n; rw [QA2,he],hso,hse⟩ (Nat.lt_succ_self m) (QAD (by simp) ?_)
    simp +decide -dsimp -implicitDefEqProofs [go_sem]
    exact QAG _ _
   ·conv at hse=>rhs; rw [if_neg (by simpa [ltR] using hlt)]
    simp +decide -dsimp -implicitDefEqProofs [go_sem,hlt,wi]
    rw [hse] at hs
    refine QAI (i + 1,e) ⟨by show a + 1 ≤ i + 1; omega,he,hoe,hs⟩ (by show b - (i + 1) < b - i; omega) (QAD (by simp) ?_)
    simp +decide -dsimp -implicitDefEqProofs [go_sem]
    exact QAG _ _
  ·have hstop:insInner ltR a j e = e:=by
    cases j with
    | zero=>rfl
    | succ m=>
     have hgt:(decide (m + 1 > a)) = false:=decide_eq_false hja
     rw [insInner,hgt,Bool.false_and]; rfl
   rw [hstop] at hse
   rw [hse] at hs
   simp +decide -dsimp -implicitDefEqProofs [go_sem,wi,hja]
   refine QAI (i + 1,e) ⟨by show a + 1 ≤ i + 1; omega,he,hoe,hs⟩ (by show b - (i + 1) < b - i; omega) (QAD (by simp) ?_)
   simp +decide -dsimp -implicitDefEqProofs [go_sem]
   exact QAG _ _
 ·conv at hs=>rhs; rw [insOuter,if_neg h]
  rw [hs]
  simp +decide -dsimp -implicitDefEqProofs [go_sem,h]
  exact QAG _ _
end Go.Ab
namespace Go.Ab
open Go Go.Proofs Go.Sort
def QDW:Hint → Nat
 | .unknown=>0
 | .increasing=>1
 | .decreasing=>2
theorem QR2 (d:Array Rcd) (a b:Nat) (hn:d.size ≤ 100000) (h0:okP d) (hab:a < b) (hb:b ≤ d.size):
  ACalls Tryz.prog 132 [.own 0 d.size,.int .i64 a,.int .i64 b,.fn (.func 60) [] []] [rgO d]
   (.tup [.int .i64 (choosePivot ltR d a b).1,.int .i64 (QDW (choosePivot ltR d a b).2)]) [rgO d] ∧ (choosePivot ltR d a b).1 < d.size:=by
 have wl:IntKind.i64.wrap ((b:Int) - (a:Int)) = ((b - a:Nat):Int):=by rw [w64 (by omega) (by omega)]; omega
 unfold choosePivot
 simp only
 obtain ⟨l,hl⟩:∃ l,l = b - a:=⟨_,rfl⟩
 rw [← hl] at wl ⊢
 have wq:IntKind.i64.wrap ((l:Int) / 4) = ((l / 4:Nat):Int):=by
  rw [show (l:Int) / 4 = ((l / 4:Nat):Int) from rfl]; exact w64 (by omega) (by omega)
 obtain ⟨q,hq⟩:∃ q,q = l / 4:=⟨_,rfl⟩
 have hq4:q * 4 ≤ l:=by omega
 have hq1:l ≤ q * 4 + 3:=by omega
 rw [← hq] at wq ⊢
 have w1:IntKind.i64.wrap (q:Int) = (q:Int):=w64 (by omega) (by omega)
 have w2:IntKind.i64.wrap ((q:Int) * 2) = (q:Int) * 2:=w64 (by omega) (by omega)
 have w3:IntKind.i64.wrap ((q:Int) * 3) = (q:Int) * 3:=w64 (by omega) (by omega)
 have x1:IntKind.i64.wrap ((a:Int) + q) = (a:Int) + q:=w64 (by omega) (by omega)
 have x2:IntKind.i64.wrap ((a:Int) + (q:Int) * 2) = (a:Int) + (q:Int) * 2:=w64 (by omega) (by omega)
 have x3:IntKind.i64.wrap ((a:Int) + (q:Int) * 3) = (a:Int) + (q:Int) * 3:=w64 (by omega) (by omega)
 have hrr:=QDQ
 by_cases h8:l ≥ 8
 ·have y8:(8:Int) ≤ (l:Int):=by omega
  simp only [if_pos h8]
  have e1:((a + q * 1:Nat):Int) = (a:Int) + q:=by omega
  by_cases h50:l ≥ 50
  ·have y50:(50:Int) ≤ (l:Int):=by omega
   simp only [if_pos h50]
   obtain ⟨c1,b1,s1⟩:=QI0 d (a + q * 1) 0 h0 (by omega) (by omega) (by omega) (by omega)
   generalize medianAdjacent ltR d (a + q * 1) 0 = r1 at c1 b1 s1 ⊢
   obtain ⟨c2,b2,s2⟩:=QI0 d (a + q * 2) r1.2 h0 (by omega) (by omega) (by omega) (by omega)
   generalize medianAdjacent ltR d (a + q * 2) r1.2 = r2 at c2 b2 s2 ⊢
   obtain ⟨c3,b3,s3⟩:=QI0 d (a + q * 3) r2.2 h0 (by omega) (by omega) (by omega) (by omega)
   generalize medianAdjacent ltR d (a + q * 3) r2.2 = r3 at c3 b3 s3 ⊢
   obtain ⟨c4,b4,s4⟩:=QIz d r1.1 r2.1 r3.1 r3.2 h0 b1 b2 b3 (by omega)
   generalize median ltR d r1.1 r2.1 r3.1 r3.2 = r4 at c4 b4 s4 ⊢
   obtain ⟨z1,t1⟩:=r1
   obtain ⟨z2,t2⟩:=r2
   obtain ⟨z3,t3⟩:=r3
   obtain ⟨z4,t4⟩:=r4
   simp only at c1 c2 c3 c4 b1 b2 b3 b4 s1 s2 s3 s4 ⊢
   refine ⟨?_,b4⟩
   refine QAF c132_ok rfl ?_
   unfold c132
   unfold rgO swO at *
   rw [e1] at c1
   simp +decide -dsimp -implicitDefEqProofs [go_sem] at c1 c2 c3 c4
   simp +decide -dsimp -implicitDefEqProofs [go_sem,wl,wq,w1,w2,w3,x1,x2,x3,y8,y50]
   refine QAB [0,1] c1 rfl rfl (by simp) (by simp +decide -dsimp -implicitDefEqProofs [go_sem]) (by simp +decide -dsimp -implicitDefEqProofs [go_sem,hrr]) ?_
   simp +decide -dsimp -implicitDefEqProofs [go_sem,hrr]
   refine QAB [0,1] c2 rfl rfl (by simp) (by simp +decide -dsimp -implicitDefEqProofs [go_sem]) (by simp +decide -dsimp -implicitDefEqProofs [go_sem,hrr]) ?_
   simp +decide -dsimp -implicitDefEqProofs [go_sem,hrr]
   refine QAB [0,1] c3 rfl rfl (by simp) (by simp +decide -dsimp -implicitDefEqProofs [go_sem]) (by simp +decide -dsimp -implicitDefEqProofs [go_sem,hrr]) ?_
   simp +decide -dsimp -implicitDefEqProofs [go_sem,hrr]
   refine QAB [0,1] c4 rfl rfl (by simp) (by simp +decide -dsimp -implicitDefEqProofs [go_sem]) (by simp +decide -dsimp -implicitDefEqProofs [go_sem,hrr]) ?_
   by_cases t0:t4 = 0
   ·subst t0
    simp +decide -dsimp -implicitDefEqProofs [go_sem,hrr,QDW]
    exact QAG _ _
   ·have t0':¬ (t4:Int) = 0:=by omega
    by_cases t12:t4 = 12
    ·subst t12
     simp +decide -dsimp -implicitDefEqProofs [go_sem,hrr,QDW]
     exact QAG _ _
    ·have t12':¬ (t4:Int) = 12:=by omega
     simp +decide -dsimp -implicitDefEqProofs [go_sem,hrr,QDW,t0,t12,t12']
     exact QAG _ _
  ·have y50:¬ (50:Int) ≤ (l:Int):=by omega
   simp only [if_neg h50]
   obtain ⟨c4,b4,s4⟩:=QIz d (a + q * 1) (a + q * 2) (a + q * 3) 0 h0 (by omega) (by omega) (by omega) (by omega)
   generalize median ltR d (a + q * 1) (a + q * 2) (a + q * 3) 0 = r4 at c4 b4 s4 ⊢
   obtain ⟨z4,t4⟩:=r4
   simp only at c4 b4 s4 ⊢
   refine ⟨?_,b4⟩
   refine QAF c132_ok rfl ?_
   unfold c132
   unfold rgO swO at *
   rw [e1] at c4
   simp +decide -dsimp -implicitDefEqProofs [go_sem] at c4
   simp +decide -dsimp -implicitDefEqProofs [go_sem,wl,wq,w1,w2,w3,x1,x2,x3,y8,y50]
   refine QAB [0,1] c4 rfl rfl (by simp) (by simp +decide -dsimp -implicitDefEqProofs [go_sem]) (by simp +decide -dsimp -implicitDefEqProofs [go_sem,hrr]) ?_
   by_cases t0:t4 = 0
   ·subst t0
    simp +decide -dsimp -implicitDefEqProofs [go_sem,hrr,QDW]
    exact QAG _ _
   ·have t0':¬ (t4:Int) = 0:=by omega
    have t12:¬ t4 = 12:=by omega
    have t12':¬ (t4:Int) = 12:=by omega
    simp +decide -dsimp -implicitDefEqProofs [go_sem,hrr,QDW,t0,t12,t12']
    exact QAG _ _
 ·simp only [if_neg h8]
  have y8:¬ (8:Int) ≤ (l:Int):=by omega
  refine ⟨?_,by omega⟩
  refine QAF c132_ok rfl ?_
  unfold c132
  unfold rgO
  simp +decide -dsimp -implicitDefEqProofs [go_sem,wl,wq,w1,w2,w3,x1,x2,x3,y8,QDW]
  exact QAG _ _
end Go.Ab
namespace Go.Ab
open Go Go.Proofs Go.Sort
section
variable {α:Type} [Inhabited α]
theorem QEZ (p:α → Bool) (d:Array α) (i j:Nat) (h:i ≤ j) (h0:0 < j) (hp:p d[j]! = true):scanDown p d i j = scanDown p d i (j - 1):=by
 obtain ⟨k,rfl⟩:∃ k,j = k + 1:=⟨j - 1,by omega⟩
 rw [scanDown,if_pos (by simp [h,hp])]
 rfl
theorem QB4 (p:α → Bool) (d:Array α) (i j:Nat) (h:¬ i ≤ j ∨ p d[j]! = false):scanDown p d i j = j:=by
 cases j with
 | zero=>rfl
 | succ k=>rw [scanDown,if_neg (by rcases h with h | h <;> simp [h])]
theorem QJ6 {lt:α → α → Bool} {a i j i2 j2:Nat} {d:Array α} (hi:i2 = scanUp (fun x=>lt x d[a]!) d j i) (hj:j2 = scanDown (fun x=>!lt x d[a]!) d i2 j) (h0:0 < i) (h:i2 ≤ j2):i2 < j2:=by
 have bi:=scanUp_spec (fun x=>lt x d[a]!) d j _ i rfl
 rw [← hi] at bi
 have bj:=scanDown_spec (fun x=>!lt x d[a]!) d i2 j
 rw [← hj] at bj
 rcases Nat.lt_or_ge i2 j2 with h' | h'
 ·exact h'
 ·have e:j2 = i2:=by omega
  have f1:=bi.2.2.2 (by have:=bj.1; omega)
  have f2:=bj.2.2.2 h (by have:=bi.1; omega)
  rw [e] at f2
  simp only [f1] at f2
  cases f2
end
theorem QLI (d0:Array Rcd) (a b p:Nat) (hn:d0.size ≤ 100000) (h0:okP d0) (hap:a ≤ p) (hpb:p < b) (hb:b ≤ d0.size):
  ACalls Tryz.prog 136 [.own 0 d0.size,.int .i64 a,.int .i64 b,.int .i64 p,.fn (.func 60) [] []] [rgO d0]
   (.tup [.int .i64 (Go.Sort.partition ltR d0 a b p).1,.bool (Go.Sort.partition ltR d0 a b p).2.1]) [rgO (Go.Sort.partition ltR d0 a b p).2.2]:=by
 obtain ⟨n,hN⟩:∃ n,n = d0.size:=⟨_,rfl⟩
 rw [← hN] at hn hb ⊢
 have hle0:(rows d0).length = n:=by rw [QBH,hN]
 have han:a < n:=by omega
 have hpn:p < n:=by omega
 obtain ⟨d,hdd⟩:∃ d,d = swp d0 a p:=⟨_,rfl⟩
 have hd:d.size = n:=by rw [hdd,QA2,hN]
 have hok:okP d:=by rw [hdd]; exact QBj h0 (by omega) (by omega)
 have hle:(rows d).length = n:=by rw [QBH,hd]
 have ga:=QAW (d:=d) (j:=a) (by omega) (by omega)
 obtain ⟨jb,hjb⟩:∃ x,x = b - 1:=⟨_,rfl⟩
 obtain ⟨ia,hia⟩:∃ x,x = a + 1:=⟨_,rfl⟩
 obtain ⟨i2,hi2⟩:∃ x,x = scanUp (fun x=>ltR x d[a]!) d jb ia:=⟨_,rfl⟩
 obtain ⟨j2,hj2⟩:∃ x,x = scanDown (fun x=>!ltR x d[a]!) d i2 jb:=⟨_,rfl⟩
 have bi:=scanUp_spec (fun x=>ltR x d[a]!) d jb _ ia rfl
 rw [← hi2] at bi
 have bj:=scanDown_spec (fun x=>!ltR x d[a]!) d i2 jb
 rw [← hj2] at bj
 have bi1:=bi.1
 have bi2:=bi.2.1 (by omega)
 have bj1:=bj.1
 have bj2:=bj.2.1 (by omega)
 clear bi bj
 have hpart:Go.Sort.partition ltR d0 a b p = if i2 > j2 then (j2,true,swp d j2 a) else ((partLoop ltR a (i2 + 1) (j2 - 1) (swp d i2 j2)).1,false,swp (partLoop ltR a (i2 + 1) (j2 - 1) (swp d i2 j2)).2 (partLoop ltR a (i2 + 1) (j2 - 1) (swp d i2 j2)).1 a):=by
  subst hj2 hi2 hdd hjb hia
  rfl
 rw [hpart]
 clear hpart
 have wa:IntKind.i64.wrap ((a:Int) + 1) = (ia:Int):=by rw [w64 (by omega) (by omega)]; omega
 have wb:IntKind.i64.wrap ((b:Int) - 1) = (jb:Int):=by rw [w64 (by omega) (by omega)]; omega
 refine QBw c136_ok rfl ?_
 unfold c136 rgO
 refine QAL ⟨tmps 178 [(0,.own 0 n),(1,.int .i64 a),(2,.int .i64 b),(3,.int .i64 p),(4,.fn (.func 60) [] []),(10,.int .i64 0),(11,.bool false)],[.reg 34 12 (rows d0)]⟩ (QAJ ?_) ?_
 ·simp +decide -dsimp -implicitDefEqProofs [go_sem]
  refine QAH (by simp) ?_
  simp +decide -dsimp -implicitDefEqProofs [go_sem]
  exact QAG _ _
 refine QAL ⟨tmps 178 [(0,.own 0 n),(1,.int .i64 a),(2,.int .i64 b),(3,.int .i64 p),(4,.fn (.func 60) [] []),(10,.int .i64 0),(11,.bool false)],[.reg 34 12 (rows d)]⟩ (QAJ ?_) ?_
 ·have gx:=QAW (d:=d0) (j:=a) (by omega) (by omega)
  have gy:=QAW (d:=d0) (j:=p) (by omega) (by omega)
  have hsw:=QBd d0 a p
  simp +decide -dsimp -implicitDefEqProofs [go_sem,hle0,han,hpn,gx,gy,QAN,QAP,QA3,QAq,QAm]
  rw [hsw,← hdd]
  refine QAH (by simp) ?_
  simp +decide -dsimp -implicitDefEqProofs [go_sem]
  exact QAG _ _
 refine QAL ⟨tmps 178 [(0,.own 0 n),(1,.int .i64 a),(2,.int .i64 b),(3,.int .i64 p),(4,.fn (.func 60) [] []),(10,.int .i64 0),(11,.bool false),(12,.int .i64 ia),(13,.int .i64 jb)],[.reg 34 12 (rows d)]⟩ (QAJ ?_) ?_
 ·simp +decide -dsimp -implicitDefEqProofs [go_sem,wa,wb]
  refine QAH (by simp) ?_
  simp +decide -dsimp -implicitDefEqProofs [go_sem]
  exact QAG _ _
 refine QAL ⟨tmps 178 [(0,.own 0 n),(1,.int .i64 a),(2,.int .i64 b),(3,.int .i64 p),(4,.fn (.func 60) [] []),(10,.int .i64 0),(11,.bool false),(12,.int .i64 i2),(13,.int .i64 jb)],[.reg 34 12 (rows d)]⟩ (QAJ ?_) ?_
 ·
  simp +decide -dsimp -implicitDefEqProofs [go_sem]
  refine QAR (S:=Nat) (fun s=>⟨tmps 178 [(0,.own 0 n),(1,.int .i64 a),(2,.int .i64 b),(3,.int .i64 p),(4,.fn (.func 60) [] []),(10,.int .i64 0),(11,.bool false),(12,.int .i64 (s:Nat)),(13,.int .i64 jb)],[.reg 34 12 (rows d)]⟩) (fun s=>jb + 1 - s) (fun s=>a + 1 ≤ s ∧ s ≤ jb + 1 ∧ i2 = scanUp (fun x=>ltR x d[a]!) d jb s) (ia) ⟨by omega,by omega,hi2⟩ (QAD (by simp) ?_) ?_
  ·simp +decide -dsimp -implicitDefEqProofs [go_sem]
   exact QAG _ _
  rintro s ⟨s1,s2,s3⟩
  by_cases h:s ≤ jb
  ·have gi:=QAW (d:=d) (j:=s) (by omega) (by omega)
   have hsn:s < n:=by omega
   have cl:=QDH _ _ (QA9 hok (j:=s) (by omega)) (QA9 hok (j:=a) (by omega))
   have w1:IntKind.i64.wrap ((s:Int) + 1) = s + 1:=w64 (by omega) (by omega)
   simp +decide -dsimp -implicitDefEqProofs [go_sem,h,hle,hsn,han,gi,ga,QAN,QAP]
   refine QAO cl (by simp +decide -dsimp -implicitDefEqProofs [go_sem,QAg]) rfl ?_
   by_cases hlt:QEv d[s]!.path d[a]!.path < 0
   ·conv at s3=>rhs; rw [scanUp,if_pos (by simpa [ltR,hlt] using h)]
    simp +decide -dsimp -implicitDefEqProofs [go_sem,hlt,w1]
    refine QAI (s + 1) ⟨by omega,by omega,s3⟩ (by omega) (QAD (by simp) ?_)
    simp +decide -dsimp -implicitDefEqProofs [go_sem]
    exact QAG _ _
   ·conv at s3=>rhs; rw [scanUp,if_neg (by simp [ltR,hlt])]
    subst s3
    simp +decide -dsimp -implicitDefEqProofs [go_sem,hlt]
    refine QAH (by simp) ?_
    simp +decide -dsimp -implicitDefEqProofs [go_sem]
    exact QAG _ _
  ·conv at s3=>rhs; rw [scanUp,if_neg (by simp [h])]
   subst s3
   simp +decide -dsimp -implicitDefEqProofs [go_sem,h]
   refine QAH (by simp) ?_
   simp +decide -dsimp -implicitDefEqProofs [go_sem]
   exact QAG _ _
 refine QAL ⟨tmps 178 [(0,.own 0 n),(1,.int .i64 a),(2,.int .i64 b),(3,.int .i64 p),(4,.fn (.func 60) [] []),(10,.int .i64 0),(11,.bool false),(12,.int .i64 i2),(13,.int .i64 j2)],[.reg 34 12 (rows d)]⟩ (QAJ ?_) ?_
 ·
  simp +decide -dsimp -implicitDefEqProofs [go_sem]
  refine QAR (S:=Nat) (fun s=>⟨tmps 178 [(0,.own 0 n),(1,.int .i64 a),(2,.int .i64 b),(3,.int .i64 p),(4,.fn (.func 60) [] []),(10,.int .i64 0),(11,.bool false),(12,.int .i64 i2),(13,.int .i64 (s:Nat))],[.reg 34 12 (rows d)]⟩) (fun s=>s) (fun s=>s ≤ jb ∧ i2 ≤ s + 1 ∧ j2 = scanDown (fun x=>!ltR x d[a]!) d i2 s) (jb) ⟨by omega,by omega,hj2⟩ (QAD (by simp) ?_) ?_
  ·simp +decide -dsimp -implicitDefEqProofs [go_sem]
   exact QAG _ _
  rintro s ⟨s1,s2,s3⟩
  by_cases h:i2 ≤ s
  ·have gi:=QAW (d:=d) (j:=s) (by omega) (by omega)
   have hsn:s < n:=by omega
   have cl:=QDH _ _ (QA9 hok (j:=s) (by omega)) (QA9 hok (j:=a) (by omega))
   have w1:IntKind.i64.wrap ((s:Int) - 1) = ((s - 1:Nat):Int):=by rw [w64 (by omega) (by omega)]; omega
   simp +decide -dsimp -implicitDefEqProofs [go_sem,h,hle,hsn,han,gi,ga,QAN,QAP]
   refine QAO cl (by simp +decide -dsimp -implicitDefEqProofs [go_sem,QAg]) rfl ?_
   by_cases hlt:QEv d[s]!.path d[a]!.path < 0
   ·rw [QB4 _ _ _ _ (.inr (by simp [ltR,hlt]))] at s3
    subst s3
    simp +decide -dsimp -implicitDefEqProofs [go_sem,hlt]
    refine QAH (by simp) ?_
    simp +decide -dsimp -implicitDefEqProofs [go_sem]
    exact QAG _ _
   ·rw [QEZ _ _ _ _ h (by omega) (by simp [ltR,hlt])] at s3
    simp +decide -dsimp -implicitDefEqProofs [go_sem,hlt,w1]
    refine QAI (s - 1) ⟨by omega,by omega,s3⟩ (by omega) (QAD (by simp) ?_)
    simp +decide -dsimp -implicitDefEqProofs [go_sem]
    exact QAG _ _
  ·rw [QB4 _ _ _ _ (.inl h)] at s3
   subst s3
   simp +decide -dsimp -implicitDefEqProofs [go_sem,h]
   refine QAH (by simp) ?_
   simp +decide -dsimp -implicitDefEqProofs [go_sem]
   exact QAG _ _
 by_cases hij:i2 > j2
 ·rw [if_pos hij]
  have hij2:(j2:Int) < (i2:Int):=by omega
  have hjn:j2 < n:=by omega
  have gx:=QAW (d:=d) (j:=j2) (by omega) (by omega)
  have hsw:=QBd d j2 a
  refine QAJ ?_
  simp +decide -dsimp -implicitDefEqProofs [go_sem,hij2,hle,han,hjn,gx,ga,QAN,QAP,QA3,QAq,QAm]
  rw [hsw]
  exact ⟨rfl,QAG _ _⟩
 rw [if_neg hij]
 have hij2:¬ (j2:Int) < (i2:Int):=by omega
 obtain ⟨e,hee⟩:∃ e,e = swp d i2 j2:=⟨_,rfl⟩
 rw [← hee]
 have he:e.size = n:=by rw [hee,QA2,hd]
 have hoe:okP e:=by rw [hee]; exact QBj hok (by omega) (by omega)
 refine QAL ⟨tmps 178 [(0,.own 0 n),(1,.int .i64 a),(2,.int .i64 b),(3,.int .i64 p),(4,.fn (.func 60) [] []),(10,.int .i64 0),(11,.bool false),(12,.int .i64 i2),(13,.int .i64 j2)],[.reg 34 12 (rows d)]⟩ (QAJ ?_) ?_
 ·simp +decide -dsimp -implicitDefEqProofs [go_sem,hij2]
  refine QAH (by simp) ?_
  simp +decide -dsimp -implicitDefEqProofs [go_sem]
  exact QAG _ _
 have hin:i2 < n:=by omega
 have hjn:j2 < n:=by omega
 refine QAL ⟨tmps 178 [(0,.own 0 n),(1,.int .i64 a),(2,.int .i64 b),(3,.int .i64 p),(4,.fn (.func 60) [] []),(10,.int .i64 0),(11,.bool false),(12,.int .i64 i2),(13,.int .i64 j2)],[.reg 34 12 (rows e)]⟩ (QAJ ?_) ?_
 ·have gx:=QAW (d:=d) (j:=i2) (by omega) (by omega)
  have gy:=QAW (d:=d) (j:=j2) (by omega) (by omega)
  have hsw:=QBd d i2 j2
  simp +decide -dsimp -implicitDefEqProofs [go_sem,hle,hin,hjn,gx,gy,QAN,QAP,QA3,QAq,QAm]
  rw [hsw,← hee]
  refine QAH (by simp) ?_
  simp +decide -dsimp -implicitDefEqProofs [go_sem]
  exact QAG _ _
 have hlt12:i2 < j2:=QJ6 hi2 hj2 (by omega) (by omega)
 obtain ⟨i3,hi3⟩:∃ x,x = i2 + 1:=⟨_,rfl⟩
 obtain ⟨j3,hj3⟩:∃ x,x = j2 - 1:=⟨_,rfl⟩
 have wi:IntKind.i64.wrap ((i2:Int) + 1) = (i3:Int):=by rw [w64 (by omega) (by omega)]; omega
 have wj:IntKind.i64.wrap ((j2:Int) - 1) = (j3:Int):=by rw [w64 (by omega) (by omega)]; omega
 refine QAL ⟨tmps 178 [(0,.own 0 n),(1,.int .i64 a),(2,.int .i64 b),(3,.int .i64 p),(4,.fn (.func 60) [] []),(10,.int .i64 0),(11,.bool false),(12,.int .i64 i3),(13,.int .i64 j2)],[.reg 34 12 (rows e)]⟩ (QAJ ?_) ?_
 ·simp +decide -dsimp -implicitDefEqProofs [go_sem,wi]
  refine QAH (by simp) ?_
  simp +decide -dsimp -implicitDefEqProofs [go_sem]
  exact QAG _ _
 refine QAL ⟨tmps 178 [(0,.own 0 n),(1,.int .i64 a),(2,.int .i64 b),(3,.int .i64 p),(4,.fn (.func 60) [] []),(10,.int .i64 0),(11,.bool false),(12,.int .i64 i3),(13,.int .i64 j3)],[.reg 34 12 (rows e)]⟩ (QAJ ?_) ?_
 ·simp +decide -dsimp -implicitDefEqProofs [go_sem,wj]
  refine QAH (by simp) ?_
  simp +decide -dsimp -implicitDefEqProofs [go_sem]
  exact QAG _ _
 clear hd hok hle ga hi2 hj2 hdd hee
 obtain ⟨r,hr⟩:∃ r,r = partLoop ltR a i3 j3 e:=⟨_,rfl⟩
 rw [← hi3,← hj3,← hr]
 refine QCk (S:=Nat) (fun s=>⟨tmps 178 [(0,.own 0 n),(1,.int .i64 a),(2,.int .i64 b),(3,.int .i64 p),(4,.fn (.func 60) [] []),(10,.int .i64 0),(11,.bool false),(12,.int .i64 (s:Nat)),(13,.int .i64 r.1)],[.reg 34 12 (rows r.2)]⟩) (fun _=>r.1 < b ∧ r.2.size = n ∧ okP r.2) (QBm (QAJ ?_)) ?_
 ·simp +decide -dsimp -implicitDefEqProofs [go_sem]
  refine QFp (S:=Nat × Nat × Array Rcd) (fun s=>⟨tmps 178 [(0,.own 0 n),(1,.int .i64 a),(2,.int .i64 b),(3,.int .i64 p),(4,.fn (.func 60) [] []),(10,.int .i64 0),(11,.bool false),(12,.int .i64 s.1),(13,.int .i64 s.2.1)],[.reg 34 12 (rows s.2.2)]⟩) (fun s=>s.2.1 + 1 - s.1) (fun s=>a + 1 ≤ s.1 ∧ s.1 ≤ s.2.1 + 1 ∧ s.2.1 < b ∧ s.2.2.size = n ∧ okP s.2.2 ∧ r = partLoop ltR a s.1 s.2.1 s.2.2) (i3,j3,e) ⟨by show a + 1 ≤ i3; omega,by show i3 ≤ j3 + 1; omega,by show j3 < b; omega,he,hoe,hr⟩ (QAD (by simp) ?_) ?_
  ·simp +decide -dsimp -implicitDefEqProofs [go_sem]
   exact QAG _ _
  rintro ⟨i,j,f⟩ ⟨q1,q2,q3,q4,q5,q6⟩
  simp only at q1 q2 q3 q4 q5 q6
  have hle:(rows f).length = n:=by rw [QBH,q4]
  have ga:=QAW (d:=f) (j:=a) (by omega) (by omega)
  obtain ⟨i5,hi5⟩:∃ x,x = scanUp (fun x=>ltR x f[a]!) f j i:=⟨_,rfl⟩
  obtain ⟨j5,hj5⟩:∃ x,x = scanDown (fun x=>!ltR x f[a]!) f i5 j:=⟨_,rfl⟩
  have bi:=scanUp_spec (fun x=>ltR x f[a]!) f j _ i rfl
  rw [← hi5] at bi
  have bj:=scanDown_spec (fun x=>!ltR x f[a]!) f i5 j
  rw [← hj5] at bj
  have bi1:=bi.1
  have bi2:=bi.2.1 (by omega)
  have bj1:=bj.1
  have bj2:=bj.2.1 (by omega)
  clear bi bj
  rw [partLoop_eq,← hi5,← hj5] at q6
  refine QBm ?_
  refine QAL ⟨tmps 178 [(0,.own 0 n),(1,.int .i64 a),(2,.int .i64 b),(3,.int .i64 p),(4,.fn (.func 60) [] []),(10,.int .i64 0),(11,.bool false),(12,.int .i64 i5),(13,.int .i64 j)],[.reg 34 12 (rows f)]⟩ (QAJ ?_) ?_
  ·
   simp +decide -dsimp -implicitDefEqProofs [go_sem]
   refine QAR (S:=Nat) (fun s=>⟨tmps 178 [(0,.own 0 n),(1,.int .i64 a),(2,.int .i64 b),(3,.int .i64 p),(4,.fn (.func 60) [] []),(10,.int .i64 0),(11,.bool false),(12,.int .i64 (s:Nat)),(13,.int .i64 j)],[.reg 34 12 (rows f)]⟩) (fun s=>j + 1 - s) (fun s=>a + 1 ≤ s ∧ s ≤ j + 1 ∧ i5 = scanUp (fun x=>ltR x f[a]!) f j s) (i) ⟨by omega,by omega,hi5⟩ (QAD (by simp) ?_) ?_
   ·simp +decide -dsimp -implicitDefEqProofs [go_sem]
    exact QAG _ _
   rintro s ⟨s1,s2,s3⟩
   by_cases h:s ≤ j
   ·have gi:=QAW (d:=f) (j:=s) (by omega) (by omega)
    have hsn:s < n:=by omega
    have cl:=QDH _ _ (QA9 q5 (j:=s) (by omega)) (QA9 q5 (j:=a) (by omega))
    have w1:IntKind.i64.wrap ((s:Int) + 1) = s + 1:=w64 (by omega) (by omega)
    simp +decide -dsimp -implicitDefEqProofs [go_sem,h,hle,hsn,han,gi,ga,QAN,QAP]
    refine QAO cl (by simp +decide -dsimp -implicitDefEqProofs [go_sem,QAg]) rfl ?_
    by_cases hlt:QEv f[s]!.path f[a]!.path < 0
    ·conv at s3=>rhs; rw [scanUp,if_pos (by simpa [ltR,hlt] using h)]
     simp +decide -dsimp -implicitDefEqProofs [go_sem,hlt,w1]
     refine QAI (s + 1) ⟨by omega,by omega,s3⟩ (by omega) (QAD (by simp) ?_)
     simp +decide -dsimp -implicitDefEqProofs [go_sem]
     exact QAG _ _
    ·conv at s3=>rhs; rw [scanUp,if_neg (by simp [ltR,hlt])]
     subst s3
     simp +decide -dsimp -implicitDefEqProofs [go_sem,hlt]
     refine QAH (by simp) ?_
     simp +decide -dsimp -implicitDefEqProofs [go_sem]
     exact QAG _ _
   ·conv at s3=>rhs; rw [scanUp,if_neg (by simp [h])]
    subst s3
    simp +decide -dsimp -implicitDefEqProofs [go_sem,h]
    refine QAH (by simp) ?_
    simp +decide -dsimp -implicitDefEqProofs [go_sem]
    exact QAG _ _
  refine QAL ⟨tmps 178 [(0,.own 0 n),(1,.int .i64 a),(2,.int .i64 b),(3,.int .i64 p),(4,.fn (.func 60) [] []),(10,.int .i64 0),(11,.bool false),(12,.int .i64 i5),(13,.int .i64 j5)],[.reg 34 12 (rows f)]⟩ (QAJ ?_) ?_
  ·
   simp +decide -dsimp -implicitDefEqProofs [go_sem]
   refine QAR (S:=Nat) (fun s=>⟨tmps 178 [(0,.own 0 n),(1,.int .i64 a),(2,.int .i64 b),(3,.int .i64 p),(4,.fn (.func 60) [] []),(10,.int .i64 0),(11,.bool false),(12,.int .i64 i5),(13,.int .i64 (s:Nat))],[.reg 34 12 (rows f)]⟩) (fun s=>s) (fun s=>s ≤ j ∧ i5 ≤ s + 1 ∧ j5 = scanDown (fun x=>!ltR x f[a]!) f i5 s) (j) ⟨by omega,by omega,hj5⟩ (QAD (by simp) ?_) ?_
   ·simp +decide -dsimp -implicitDefEqProofs [go_sem]
    exact QAG _ _
   rintro s ⟨s1,s2,s3⟩
   by_cases h:i5 ≤ s
   ·have gi:=QAW (d:=f) (j:=s) (by omega) (by omega)
    have hsn:s < n:=by omega
    have cl:=QDH _ _ (QA9 q5 (j:=s) (by omega)) (QA9 q5 (j:=a) (by omega))
    have w1:IntKind.i64.wrap ((s:Int) - 1) = ((s - 1:Nat):Int):=by rw [w64 (by omega) (by omega)]; omega
    simp +decide -dsimp -implicitDefEqProofs [go_sem,h,hle,hsn,han,gi,ga,QAN,QAP]
    refine QAO cl (by simp +decide -dsimp -implicitDefEqProofs [go_sem,QAg]) rfl ?_
    by_cases hlt:QEv f[s]!.path f[a]!.path < 0
    ·rw [QB4 _ _ _ _ (.inr (by simp [ltR,hlt]))] at s3
     subst s3
     simp +decide -dsimp -implicitDefEqProofs [go_sem,hlt]
     refine QAH (by simp) ?_
     simp +decide -dsimp -implicitDefEqProofs [go_sem]
     exact QAG _ _
    ·rw [QEZ _ _ _ _ h (by omega) (by simp [ltR,hlt])] at s3
     simp +decide -dsimp -implicitDefEqProofs [go_sem,hlt,w1]
     refine QAI (s - 1) ⟨by omega,by omega,s3⟩ (by omega) (QAD (by simp) ?_)
     simp +decide -dsimp -implicitDefEqProofs [go_sem]
     exact QAG _ _
   ·rw [QB4 _ _ _ _ (.inl h)] at s3
    subst s3
    simp +decide -dsimp -implicitDefEqProofs [go_sem,h]
    refine QAH (by simp) ?_
    simp +decide -dsimp -implicitDefEqProofs [go_sem]
    exact QAG _ _
  by_cases hij5:i5 > j5
  ·have hij6:(j5:Int) < (i5:Int):=by omega
   rw [if_pos hij5] at q6
   rw [q6]
   refine QAJ ?_
   simp +decide -dsimp -implicitDefEqProofs [go_sem,hij6]
   refine QBt i5 ⟨by show j5 < b; omega,q4,q5⟩ (QAD (by simp) ?_)
   simp +decide -dsimp -implicitDefEqProofs [go_sem]
   exact QAG _ _
  have hij6:¬ (j5:Int) < (i5:Int):=by omega
  have hl5:i5 < j5:=QJ6 hi5 hj5 (by omega) (by omega)
  rw [if_neg hij5] at q6
  have hin5:i5 < n:=by omega
  have hjn5:j5 < n:=by omega
  have gx:=QAW (d:=f) (j:=i5) (by omega) (by omega)
  have gy:=QAW (d:=f) (j:=j5) (by omega) (by omega)
  have hsw:=QBd f i5 j5
  have wi:IntKind.i64.wrap ((i5:Int) + 1) = (i5:Int) + 1:=w64 (by omega) (by omega)
  have wj:IntKind.i64.wrap ((j5:Int) - 1) = ((j5 - 1:Nat):Int):=by rw [w64 (by omega) (by omega)]; omega
  refine QAJ ?_
  simp +decide -dsimp -implicitDefEqProofs [go_sem,hij6,hle,hin5,hjn5,gx,gy,QAN,QAP,QA3,QAq,QAm,wi,wj]
  rw [hsw]
  refine QAI (i5 + 1,j5 - 1,swp f i5 j5) ⟨by show a + 1 ≤ i5 + 1; omega,by show i5 + 1 ≤ j5 - 1 + 1; omega,by show j5 - 1 < b; omega,by show (swp f i5 j5).size = n; rw [QA2,q4],QBj q5 (by omega) (by omega),q6⟩ (by show j5 - 1 + 1 - (i5 + 1) < j + 1 - i; omega) (QAD (by simp) ?_)
  simp +decide -dsimp -implicitDefEqProofs [go_sem]
  exact QAG _ _
 rintro s ⟨r1,r2,r3⟩
 obtain ⟨j7,f⟩:=r
 simp only at r1 r2 r3 ⊢
 have hle:(rows f).length = n:=by rw [QBH,r2]
 have hjn7:j7 < n:=by omega
 have gx:=QAW (d:=f) (j:=j7) (by omega) (by omega)
 have ga:=QAW (d:=f) (j:=a) (by omega) (by omega)
 have hsw:=QBd f j7 a
 refine QAJ ?_
 simp +decide -dsimp -implicitDefEqProofs [go_sem,hle,han,hjn7,gx,ga,QAN,QAP,QA3,QAq,QAm]
 rw [hsw]
 exact ⟨rfl,QAG _ _⟩
end Go.Ab
namespace Go.Ab
open Go Go.Proofs Go.Sort
theorem QR3:∀ (j:Nat) (d:Array Rcd),j < d.size → okP d → okP (shiftDown ltR j d) ∧ (shiftDown ltR j d).size = d.size
 | 0,d,_,h=>⟨h,rfl⟩
 | j + 1,d,hj,h=>by
  rw [shiftDown]
  split
  ·exact ⟨h,rfl⟩
  ·have:=QR3 j (swp d (j + 1) j) (by rw [QA2]; omega) (QBj h hj (by omega))
   rw [QA2] at this
   exact this
theorem QR4 (b:Nat):∀ (k j:Nat) (d:Array Rcd),b - j ≤ k → b ≤ d.size → 1 ≤ j → okP d → okP (shiftUp ltR b j d) ∧ (shiftUp ltR b j d).size = d.size
 | 0,j,d,hk,_,_,h=>by
  rw [shiftUp,if_neg (by omega)]
  exact ⟨h,rfl⟩
 | k + 1,j,d,hk,hb,hj,h=>by
  rw [shiftUp]
  split
  ·split
   ·exact ⟨h,rfl⟩
   ·have:=QR4 b k (j + 1) (swp d j (j - 1)) (by omega) (by rw [QA2]; exact hb) (by omega) (QBj h (by omega) (by omega))
    rw [QA2] at this
    exact this
  ·exact ⟨h,rfl⟩
theorem QR5 {lt:Rcd → Rcd → Bool} {d:Array Rcd} {b:Nat}:∀ (k i:Nat),b - i ≤ k → i ≤ b → i ≤ scanSorted lt d b i ∧ scanSorted lt d b i ≤ b
 | 0,i,hk,hi=>by
  rw [scanSorted,if_neg (by simp; omega)]
  exact ⟨Nat.le_refl _,hi⟩
 | k + 1,i,hk,hi=>by
  rw [scanSorted]
  split
  ·rename_i h
   simp only [Bool.and_eq_true,decide_eq_true_eq] at h
   have:=QR5 (lt:=lt) (d:=d) (b:=b) k (i + 1) (by omega) (by omega)
   exact ⟨by omega,this.2⟩
  ·exact ⟨Nat.le_refl _,hi⟩
theorem QGa (d0:Array Rcd) (a b:Nat) (hn:d0.size ≤ 100000) (h0:okP d0) (hab:a < b) (hb:b ≤ d0.size):
  ACalls Tryz.prog 134 [.own 0 d0.size,.int .i64 a,.int .i64 b,.fn (.func 60) [] []] [rgO d0]
   (.bool (partialInsertionSort ltR d0 a b).2) [rgO (partialInsertionSort ltR d0 a b).1]:=by
 obtain ⟨n,hN⟩:∃ n,n = d0.size:=⟨_,rfl⟩
 rw [← hN] at hn hb ⊢
 obtain ⟨r,hr⟩:∃ r,r = partialInsertionSort ltR d0 a b:=⟨_,rfl⟩
 rw [← hr]
 rw [partialInsertionSort] at hr
 obtain ⟨ia,hia⟩:∃ x,x = a + 1:=⟨_,rfl⟩
 rw [← hia] at hr
 have wa:IntKind.i64.wrap ((a:Int) + 1) = (ia:Int):=by rw [w64 (by omega) (by omega)]; omega
 have wba:IntKind.i64.wrap ((b:Int) - (a:Int)) = (b:Int) - (a:Int):=w64 (by omega) (by omega)
 refine QBw c134_ok rfl ?_
 unfold c134 rgO
 refine QAL ⟨tmps 141 [(0,.own 0 n),(1,.int .i64 a),(2,.int .i64 b),(3,.fn (.func 60) [] []),(8,.bool false)],[.reg 34 12 (rows d0)]⟩ (QAJ ?_) ?_
 ·
  simp +decide -dsimp -implicitDefEqProofs [go_sem]
  refine QAH (by simp) ?_
  simp +decide -dsimp -implicitDefEqProofs [go_sem]
  exact QAG _ _
 refine QAL ⟨tmps 141 [(0,.own 0 n),(1,.int .i64 a),(2,.int .i64 b),(3,.fn (.func 60) [] []),(8,.bool false),(9,.int .i64 ia)],[.reg 34 12 (rows d0)]⟩ (QAJ ?_) ?_
 ·
  simp +decide -dsimp -implicitDefEqProofs [go_sem,wa]
  refine QAH (by simp) ?_
  simp +decide -dsimp -implicitDefEqProofs [go_sem]
  exact QAG _ _
 refine QCk (S:=Nat) (fun s=>⟨tmps 141 [(0,.own 0 n),(1,.int .i64 a),(2,.int .i64 b),(3,.fn (.func 60) [] []),(8,.bool false),(9,.int .i64 (s:Nat)),(10,.int .i64 5)],[.reg 34 12 (rows r.1)]⟩) (fun _=>r.2 = false) ?_ ?_
 ·
  refine QAL ⟨tmps 141 [(0,.own 0 n),(1,.int .i64 a),(2,.int .i64 b),(3,.fn (.func 60) [] []),(8,.bool false),(9,.int .i64 ia),(10,.int .i64 0)],[.reg 34 12 (rows d0)]⟩ (QAJ ?_) ?_
  ·
   simp +decide -dsimp -implicitDefEqProofs [go_sem]
   refine QAH (by simp) ?_
   simp +decide -dsimp -implicitDefEqProofs [go_sem]
   exact QAG _ _
  refine QBm (QAJ ?_)
  simp +decide -dsimp -implicitDefEqProofs [go_sem]
  refine QFp (S:=Nat × Nat × Array Rcd) (fun s=>⟨tmps 141 [(0,.own 0 n),(1,.int .i64 a),(2,.int .i64 b),(3,.fn (.func 60) [] []),(8,.bool false),(9,.int .i64 s.2.1),(10,.int .i64 s.1)],[.reg 34 12 (rows s.2.2)]⟩) (fun s=>5 - s.1) (fun s=>s.1 ≤ 5 ∧ a + 1 ≤ s.2.1 ∧ s.2.1 ≤ b ∧ s.2.2.size = n ∧ okP s.2.2 ∧ r = partialIns ltR a b (5 - s.1) s.2.1 s.2.2) (0,ia,d0) ⟨Nat.zero_le _,by show a + 1 ≤ ia; omega,by show ia ≤ b; omega,hN.symm,h0,hr⟩ (QAD (by simp) ?_) ?_
  ·
   simp +decide -dsimp -implicitDefEqProofs [go_sem]
   exact QAG _ _
  rintro ⟨t,i,d⟩ ⟨q1,q2,q3,q4,q5,q6⟩
  simp only at q1 q2 q3 q4 q5 q6
  by_cases ht:t < 5
  rotate_left
  ·have ht5:t = 5:=by omega
   subst ht5
   have q6:r = (d,false):=q6
   rw [q6]
   refine QAJ ?_
   simp +decide -dsimp -implicitDefEqProofs [go_sem]
   refine QBt i (by simp) (QAD (by simp) ?_)
   simp +decide -dsimp -implicitDefEqProofs [go_sem]
   exact QAG _ _
  obtain ⟨t5,ht5⟩:∃ x,5 - t = x + 1:=⟨4 - t,by omega⟩
  have ht4:5 - (t + 1) = t5:=by omega
  have hti:(t:Int) < 5:=by omega
  have wt:IntKind.i64.wrap ((t:Int) + 1) = t + 1:=w64 (by omega) (by omega)
  refine QAL ⟨tmps 141 [(0,.own 0 n),(1,.int .i64 a),(2,.int .i64 b),(3,.fn (.func 60) [] []),(8,.bool false),(9,.int .i64 i),(10,.int .i64 t)],[.reg 34 12 (rows d)]⟩ (QAJ ?_) ?_
  ·
   simp +decide -dsimp -implicitDefEqProofs [go_sem,hti]
   refine QAH (by simp) ?_
   simp +decide -dsimp -implicitDefEqProofs [go_sem]
   exact QAG _ _
  rw [ht5,partialIns_succ] at q6
  obtain ⟨bs1,bs2⟩:=QR5 (lt:=ltR) (d:=d) (b:=b) _ i (Nat.le_refl _) q3
  obtain ⟨i5,hi5⟩:∃ x,x = scanSorted ltR d b i:=⟨_,rfl⟩
  rw [← hi5] at q6 bs1 bs2
  obtain ⟨e1,he1⟩:∃ x,x = swp d i5 (i5 - 1):=⟨_,rfl⟩
  obtain ⟨e2,he2⟩:∃ x,x = (if i5 - a ≥ 2 then shiftDown ltR (i5 - 1) e1 else e1):=⟨_,rfl⟩
  obtain ⟨e3,he3⟩:∃ x,x = (if b - i5 ≥ 2 then shiftUp ltR b (i5 + 1) e2 else e2):=⟨_,rfl⟩
  have hf:fixUp ltR b i5 (fixDown ltR a i5 (swp d i5 (i5 - 1))) = e3:=by subst he3 he2 he1; rfl
  rw [hf] at q6
  have hle:(rows d).length = n:=by rw [QBH,q4]
  refine QCk (S:=Unit) (fun _=>⟨tmps 141 [(0,.own 0 n),(1,.int .i64 a),(2,.int .i64 b),(3,.fn (.func 60) [] []),(8,.bool false),(9,.int .i64 i5),(10,.int .i64 t)],[.reg 34 12 (rows e3)]⟩) (fun _=>r = partialIns ltR a b t5 i5 e3 ∧ e3.size = n ∧ okP e3) (QBm ?_) ?_
  rotate_left
  ·rintro _ ⟨p1,p2,p3⟩
   refine QAJ ?_
   simp +decide -dsimp -implicitDefEqProofs [go_sem,wt]
   refine QAI (t + 1,i5,e3) ⟨by show t + 1 ≤ 5; omega,by show a + 1 ≤ i5; omega,bs2,p2,p3,by show r = partialIns ltR a b (5 - (t + 1)) i5 e3; rw [ht4]; exact p1⟩ (by show 5 - (t + 1) < 5 - t; omega) (QAD (by simp) ?_)
   simp +decide -dsimp -implicitDefEqProofs [go_sem]
   exact QAG _ _
  refine QAL ⟨tmps 141 [(0,.own 0 n),(1,.int .i64 a),(2,.int .i64 b),(3,.fn (.func 60) [] []),(8,.bool false),(9,.int .i64 i5),(10,.int .i64 t)],[.reg 34 12 (rows d)]⟩ (QAJ ?_) ?_
  ·
   simp +decide -dsimp -implicitDefEqProofs [go_sem]
   refine QAR (S:=Nat) (fun s=>⟨tmps 141 [(0,.own 0 n),(1,.int .i64 a),(2,.int .i64 b),(3,.fn (.func 60) [] []),(8,.bool false),(9,.int .i64 (s:Nat)),(10,.int .i64 t)],[.reg 34 12 (rows d)]⟩) (fun s=>b - s) (fun s=>a + 1 ≤ s ∧ s ≤ b ∧ i5 = scanSorted ltR d b s) i ⟨q2,q3,hi5⟩ (QAD (by simp) ?_) ?_
   ·
    simp +decide -dsimp -implicitDefEqProofs [go_sem]
    exact QAG _ _
   rintro s ⟨s1,s2,s3⟩
   by_cases h:s < b
   ·have g1:=QAW (d:=d) (j:=s) (by omega) (by omega)
    have g2:=QAW (d:=d) (j:=s - 1) (by omega) (by omega)
    have hsn:s < n:=by omega
    have hs1:s - 1 < n:=by omega
    have cl:=QDH _ _ (QA9 q5 (j:=s) (by omega)) (QA9 q5 (j:=s - 1) (by omega))
    have w1:IntKind.i64.wrap ((s:Int) - 1) = ((s - 1:Nat):Int):=by rw [w64 (by omega) (by omega)]; omega
    have w2:IntKind.i64.wrap ((s:Int) + 1) = s + 1:=w64 (by omega) (by omega)
    simp +decide -dsimp -implicitDefEqProofs [go_sem,h,hle,hsn,hs1,g1,g2,w1,QAN,QAP]
    refine QAO cl (by simp +decide -dsimp -implicitDefEqProofs [go_sem,QAg]) rfl ?_
    by_cases hlt:QEv d[s]!.path d[s - 1]!.path < 0
    ·conv at s3=>rhs; rw [scanSorted,if_neg (by simp [ltR,hlt])]
     subst s3
     simp +decide -dsimp -implicitDefEqProofs [go_sem,hlt]
     refine QAH (by simp) ?_
     simp +decide -dsimp -implicitDefEqProofs [go_sem]
     exact QAG _ _
    ·conv at s3=>rhs; rw [scanSorted,if_pos (by simpa [ltR,hlt] using h)]
     simp +decide -dsimp -implicitDefEqProofs [go_sem,hlt,w2]
     refine QAI (s + 1) ⟨by omega,by omega,s3⟩ (by omega) (QAD (by simp) ?_)
     simp +decide -dsimp -implicitDefEqProofs [go_sem]
     exact QAG _ _
   ·conv at s3=>rhs; rw [scanSorted,if_neg (by simp [h])]
    subst s3
    simp +decide -dsimp -implicitDefEqProofs [go_sem,h]
    refine QAH (by simp) ?_
    simp +decide -dsimp -implicitDefEqProofs [go_sem]
    exact QAG _ _
  by_cases hib:i5 = b
  ·rw [if_pos hib] at q6
   rw [q6]
   refine QAJ ?_
   simp +decide -dsimp -implicitDefEqProofs [go_sem,hib]
   exact QAG _ _
  rw [if_neg hib] at q6
  have hib2:¬ (i5:Int) = (b:Int):=by omega
  refine QAL ⟨tmps 141 [(0,.own 0 n),(1,.int .i64 a),(2,.int .i64 b),(3,.fn (.func 60) [] []),(8,.bool false),(9,.int .i64 i5),(10,.int .i64 t)],[.reg 34 12 (rows d)]⟩ (QAJ ?_) ?_
  ·
   simp +decide -dsimp -implicitDefEqProofs [go_sem,hib2]
   refine QAH (by simp) ?_
   simp +decide -dsimp -implicitDefEqProofs [go_sem]
   exact QAG _ _
  by_cases h50:b - a < 50
  ·rw [if_pos h50] at q6
   rw [q6]
   have h51:(b:Int) - (a:Int) < 50:=by omega
   refine QAJ ?_
   simp +decide -dsimp -implicitDefEqProofs [go_sem,wba,h51]
   exact QAG _ _
  rw [if_neg h50] at q6
  have h51:¬ (b:Int) - (a:Int) < 50:=by omega
  refine QAL ⟨tmps 141 [(0,.own 0 n),(1,.int .i64 a),(2,.int .i64 b),(3,.fn (.func 60) [] []),(8,.bool false),(9,.int .i64 i5),(10,.int .i64 t)],[.reg 34 12 (rows d)]⟩ (QAJ ?_) ?_
  ·
   simp +decide -dsimp -implicitDefEqProofs [go_sem,wba,h51]
   refine QAH (by simp) ?_
   simp +decide -dsimp -implicitDefEqProofs [go_sem]
   exact QAG _ _
  have hin:i5 < n:=by omega
  have hi1:i5 - 1 < n:=by omega
  have w1:IntKind.i64.wrap ((i5:Int) - 1) = ((i5 - 1:Nat):Int):=by rw [w64 (by omega) (by omega)]; omega
  have w2:IntKind.i64.wrap ((i5:Int) + 1) = ((i5 + 1:Nat):Int):=by rw [w64 (by omega) (by omega)]; omega
  have w3:IntKind.i64.wrap ((i5:Int) - (a:Int)) = (i5:Int) - a:=w64 (by omega) (by omega)
  have w4:IntKind.i64.wrap ((b:Int) - (i5:Int)) = (b:Int) - i5:=w64 (by omega) (by omega)
  refine QAL ⟨tmps 141 [(0,.own 0 n),(1,.int .i64 a),(2,.int .i64 b),(3,.fn (.func 60) [] []),(8,.bool false),(9,.int .i64 i5),(10,.int .i64 t)],[.reg 34 12 (rows e1)]⟩ (QAJ ?_) ?_
  ·have gx:=QAW (d:=d) (j:=i5) (by omega) (by omega)
   have gy:=QAW (d:=d) (j:=i5 - 1) (by omega) (by omega)
   have hsw:=QBd d i5 (i5 - 1)
   simp +decide -dsimp -implicitDefEqProofs [go_sem,hle,hin,hi1,gx,gy,w1,QAN,QAP,QA3,QAq,QAm]
   rw [hsw,← he1]
   refine QAH (by simp) ?_
   simp +decide -dsimp -implicitDefEqProofs [go_sem]
   exact QAG _ _
  have z1:e1.size = n:=by rw [he1,QA2,q4]
  have o1:okP e1:=by rw [he1]; exact QBj q5 (by omega) (by omega)
  have zo2:okP e2 ∧ e2.size = n:=by
   rw [he2]
   split
   ·have:=QR3 (i5 - 1) e1 (by omega) o1; rw [z1] at this; exact this
   ·exact ⟨o1,z1⟩
  obtain ⟨o2,z2⟩:=zo2
  have zo3:okP e3 ∧ e3.size = n:=by
   rw [he3]
   split
   ·have:=QR4 b _ (i5 + 1) e2 (Nat.le_refl _) (by omega) (by omega) o2; rw [z2] at this; exact this
   ·exact ⟨o2,z2⟩
  obtain ⟨o3,z3⟩:=zo3
  clear hi5 hr he1 hle
  refine QAL ⟨tmps 141 [(0,.own 0 n),(1,.int .i64 a),(2,.int .i64 b),(3,.fn (.func 60) [] []),(8,.bool false),(9,.int .i64 i5),(10,.int .i64 t)],[.reg 34 12 (rows e2)]⟩ (QAJ ?_) ?_
  ·by_cases h2:i5 - a ≥ 2
   ·rw [if_pos h2] at he2
    have h2i:(2:Int) ≤ (i5:Int) - a:=by omega
    simp +decide -dsimp -implicitDefEqProofs [go_sem,w3,w1,h2i]
    refine QAR (S:=Nat × Array Rcd) (fun s=>⟨tmps 141 [(0,.own 0 n),(1,.int .i64 a),(2,.int .i64 b),(3,.fn (.func 60) [] []),(8,.bool false),(9,.int .i64 i5),(10,.int .i64 t),(11,.int .i64 s.1)],[.reg 34 12 (rows s.2)]⟩) (fun s=>s.1) (fun s=>s.1 < n ∧ s.2.size = n ∧ okP s.2 ∧ e2 = shiftDown ltR s.1 s.2) (i5 - 1,e1) ⟨hi1,z1,o1,he2⟩ (QAD (by simp) ?_) ?_
    ·
     simp +decide -dsimp -implicitDefEqProofs [go_sem]
     exact QAG _ _
    rintro ⟨j,f⟩ ⟨s1,s2,s3,s4⟩
    simp only at s1 s2 s3 s4
    cases j with
    | zero=>
     have s4:e2 = f:=s4
     subst s4
     simp +decide -dsimp -implicitDefEqProofs [go_sem]
     refine QAH (by simp) ?_
     simp +decide -dsimp -implicitDefEqProofs [go_sem]
     exact QAG _ _
    | succ j=>
     have hle:(rows f).length = n:=by rw [QBH,s2]
     have g1:=QAW (d:=f) (j:=j + 1) (by omega) (by omega)
     have g2:=QAW (d:=f) (j:=j) (by omega) (by omega)
     have hj:j < n:=by omega
     have hz:(0:Int) ≤ (j:Int) + 1:=by omega
     have hz1:(1:Int) ≤ (j:Int) + 1:=by omega
     have cl:=QDH _ _ (QA9 s3 (j:=j + 1) (by omega)) (QA9 s3 (j:=j) (by omega))
     have wj:IntKind.i64.wrap (j:Int) = (j:Int):=w64 (by omega) (by omega)
     have hsw:=QBd f (j + 1) j
     simp +decide -dsimp -implicitDefEqProofs [go_sem,hz,hz1,hle,s1,hj,g1,g2,wj,QAN,QAP]
     refine QAO cl (by simp +decide -dsimp -implicitDefEqProofs [go_sem,QAg]) rfl ?_
     rw [shiftDown] at s4
     by_cases hlt:QEv f[j + 1]!.path f[j]!.path < 0
     ·rw [if_neg (by simp [ltR,hlt])] at s4
      simp +decide -dsimp -implicitDefEqProofs [go_sem,hz,hle,s1,hj,g1,g2,wj,hlt,QAN,QAP,QA3]
      rw [hsw]
      refine QAI (j,swp f (j + 1) j) ⟨hj,by show (swp f (j + 1) j).size = n; rw [QA2,s2],QBj s3 (by omega) (by omega),s4⟩ (Nat.lt_succ_self j) (QAD (by simp) ?_)
      simp +decide -dsimp -implicitDefEqProofs [go_sem]
      exact QAG _ _
     ·rw [if_pos (by simp [ltR,hlt])] at s4
      subst s4
      simp +decide -dsimp -implicitDefEqProofs [go_sem,hlt]
      refine QAH (by simp) ?_
      simp +decide -dsimp -implicitDefEqProofs [go_sem]
      exact QAG _ _
   ·rw [if_neg h2] at he2
    subst he2
    have h2i:¬ (2:Int) ≤ (i5:Int) - a:=by omega
    simp +decide -dsimp -implicitDefEqProofs [go_sem,w3,h2i]
    refine QAH (by simp) ?_
    simp +decide -dsimp -implicitDefEqProofs [go_sem]
    exact QAG _ _
  refine QAJ ?_
  by_cases h2:b - i5 ≥ 2
  ·rw [if_pos h2] at he3
   have h2i:(2:Int) ≤ (b:Int) - i5:=by omega
   simp +decide -dsimp -implicitDefEqProofs [go_sem,w4,w2,h2i]
   refine QAR (S:=Nat × Array Rcd) (fun s=>⟨tmps 141 [(0,.own 0 n),(1,.int .i64 a),(2,.int .i64 b),(3,.fn (.func 60) [] []),(8,.bool false),(9,.int .i64 i5),(10,.int .i64 t),(12,.int .i64 s.1)],[.reg 34 12 (rows s.2)]⟩) (fun s=>b - s.1) (fun s=>1 ≤ s.1 ∧ s.2.size = n ∧ okP s.2 ∧ e3 = shiftUp ltR b s.1 s.2) (i5 + 1,e2) ⟨by show 1 ≤ i5 + 1; omega,z2,o2,he3⟩ (QAD (by simp) ?_) ?_
   ·
    simp +decide -dsimp -implicitDefEqProofs [go_sem]
    exact QAG _ _
   rintro ⟨j,f⟩ ⟨s1,s2,s3,s4⟩
   simp only at s1 s2 s3 s4
   by_cases h:j < b
   rotate_left
   ·rw [shiftUp,if_neg h] at s4
    subst s4
    simp +decide -dsimp -implicitDefEqProofs [go_sem,h]
    refine QBt () ⟨q6,z3,o3⟩ (QAD (by simp) ?_)
    simp +decide -dsimp -implicitDefEqProofs [go_sem]
    exact QAG _ _
   have hle:(rows f).length = n:=by rw [QBH,s2]
   have g1:=QAW (d:=f) (j:=j) (by omega) (by omega)
   have g2:=QAW (d:=f) (j:=j - 1) (by omega) (by omega)
   have hj:j < n:=by omega
   have hj1:j - 1 < n:=by omega
   have cl:=QDH _ _ (QA9 s3 (j:=j) (by omega)) (QA9 s3 (j:=j - 1) (by omega))
   have wj:IntKind.i64.wrap ((j:Int) - 1) = ((j - 1:Nat):Int):=by rw [w64 (by omega) (by omega)]; omega
   have wk:IntKind.i64.wrap ((j:Int) + 1) = j + 1:=w64 (by omega) (by omega)
   have hsw:=QBd f j (j - 1)
   simp +decide -dsimp -implicitDefEqProofs [go_sem,h,hle,hj,hj1,g1,g2,wj,QAN,QAP]
   refine QAO cl (by simp +decide -dsimp -implicitDefEqProofs [go_sem,QAg]) rfl ?_
   conv at s4=>rhs; rw [shiftUp,if_pos h]
   by_cases hlt:QEv f[j]!.path f[j - 1]!.path < 0
   ·conv at s4=>rhs; rw [if_neg (by simp [ltR,hlt])]
    simp +decide -dsimp -implicitDefEqProofs [go_sem,hle,hj,hj1,g1,g2,wj,wk,hlt,QAN,QAP,QA3,QAq,QAm]
    rw [hsw]
    refine QAI (j + 1,swp f j (j - 1)) ⟨by show 1 ≤ j + 1; omega,by show (swp f j (j - 1)).size = n; rw [QA2,s2],QBj s3 (by omega) (by omega),s4⟩ (by show b - (j + 1) < b - j; omega) (QAD (by simp) ?_)
    simp +decide -dsimp -implicitDefEqProofs [go_sem]
    exact QAG _ _
   ·conv at s4=>rhs; rw [if_pos (by simp [ltR,hlt])]
    subst s4
    simp +decide -dsimp -implicitDefEqProofs [go_sem,hlt]
    refine QBt () ⟨q6,z3,o3⟩ (QAD (by simp) ?_)
    simp +decide -dsimp -implicitDefEqProofs [go_sem]
    exact QAG _ _
  ·rw [if_neg h2] at he3
   subst he3
   have h2i:¬ (2:Int) ≤ (b:Int) - i5:=by omega
   simp +decide -dsimp -implicitDefEqProofs [go_sem,w4,h2i]
   refine QBt () ⟨q6,z3,o3⟩ (QAD (by simp) ?_)
   simp +decide -dsimp -implicitDefEqProofs [go_sem]
   exact QAG _ _
 rintro s r2
 refine QAJ ?_
 simp +decide -dsimp -implicitDefEqProofs [go_sem,r2]
 exact QAG _ _
end Go.Ab
namespace Go.Ab
open Go Go.Proofs Go.Sort
theorem QN3 {α:Type} [Inhabited α] {lt:α → α → Bool} {a i j i2 j2:Nat} {d:Array α} (hi:i2 = scanUp (fun x=>!lt d[a]! x) d j i) (hj:j2 = scanDown (fun x=>lt d[a]! x) d i2 j) (h0:0 < i) (h:i2 ≤ j2):i2 < j2:=by
 have bi:=scanUp_spec (fun x=>!lt d[a]! x) d j _ i rfl
 rw [← hi] at bi
 have bj:=scanDown_spec (fun x=>lt d[a]! x) d i2 j
 rw [← hj] at bj
 rcases Nat.lt_or_ge i2 j2 with h' | h'
 ·exact h'
 ·have e:j2 = i2:=by omega
  have f1:=bi.2.2.2 (by have:=bj.1; omega)
  have f2:=bj.2.2.2 h (by have:=bi.1; omega)
  rw [e] at f2
  simp only [f2] at f1
  cases f1
theorem QI1 (d0:Array Rcd) (a b p:Nat) (hn:d0.size ≤ 100000) (h0:okP d0) (hap:a ≤ p) (hpb:p < b) (hb:b ≤ d0.size):
  ACalls Tryz.prog 135 [.own 0 d0.size,.int .i64 a,.int .i64 b,.int .i64 p,.fn (.func 60) [] []] [rgO d0]
   (.int .i64 (partitionEqual ltR d0 a b p).1) [rgO (partitionEqual ltR d0 a b p).2]:=by
 obtain ⟨n,hN⟩:∃ n,n = d0.size:=⟨_,rfl⟩
 rw [← hN] at hn hb ⊢
 have hle0:(rows d0).length = n:=by rw [QBH,hN]
 have han:a < n:=by omega
 have hpn:p < n:=by omega
 obtain ⟨e,hee⟩:∃ d,d = swp d0 a p:=⟨_,rfl⟩
 have he:e.size = n:=by rw [hee,QA2,hN]
 have hoe:okP e:=by rw [hee]; exact QBj h0 (by omega) (by omega)
 obtain ⟨j3,hj3⟩:∃ x,x = b - 1:=⟨_,rfl⟩
 obtain ⟨i3,hi3⟩:∃ x,x = a + 1:=⟨_,rfl⟩
 obtain ⟨r,hr⟩:∃ r,r = partEqLoop ltR a i3 j3 e:=⟨_,rfl⟩
 have hpart:partitionEqual ltR d0 a b p = r:=by
  subst hr hee hj3 hi3
  rfl
 rw [hpart]
 clear hpart
 have wa:IntKind.i64.wrap ((a:Int) + 1) = (i3:Int):=by rw [w64 (by omega) (by omega)]; omega
 have wb:IntKind.i64.wrap ((b:Int) - 1) = (j3:Int):=by rw [w64 (by omega) (by omega)]; omega
 refine QBw c135_ok rfl ?_
 unfold c135 rgO
 refine QAL ⟨tmps 90 [(0,.own 0 n),(1,.int .i64 a),(2,.int .i64 b),(3,.int .i64 p),(4,.fn (.func 60) [] []),(10,.int .i64 0)],[.reg 34 12 (rows d0)]⟩ (QAJ ?_) ?_
 ·simp +decide -dsimp -implicitDefEqProofs [go_sem]
  refine QAH (by simp) ?_
  simp +decide -dsimp -implicitDefEqProofs [go_sem]
  exact QAG _ _
 refine QAL ⟨tmps 90 [(0,.own 0 n),(1,.int .i64 a),(2,.int .i64 b),(3,.int .i64 p),(4,.fn (.func 60) [] []),(10,.int .i64 0)],[.reg 34 12 (rows e)]⟩ (QAJ ?_) ?_
 ·have gx:=QAW (d:=d0) (j:=a) (by omega) (by omega)
  have gy:=QAW (d:=d0) (j:=p) (by omega) (by omega)
  have hsw:=QBd d0 a p
  simp +decide -dsimp -implicitDefEqProofs [go_sem,hle0,han,hpn,gx,gy,QAN,QAP,QA3,QAq,QAm]
  rw [hsw,← hee]
  refine QAH (by simp) ?_
  simp +decide -dsimp -implicitDefEqProofs [go_sem]
  exact QAG _ _
 refine QAL ⟨tmps 90 [(0,.own 0 n),(1,.int .i64 a),(2,.int .i64 b),(3,.int .i64 p),(4,.fn (.func 60) [] []),(10,.int .i64 0),(11,.int .i64 i3),(12,.int .i64 j3)],[.reg 34 12 (rows e)]⟩ (QAJ ?_) ?_
 ·simp +decide -dsimp -implicitDefEqProofs [go_sem,wa,wb]
  refine QAH (by simp) ?_
  simp +decide -dsimp -implicitDefEqProofs [go_sem]
  exact QAG _ _
 clear hee
 refine QCk (S:=Nat) (fun s=>⟨tmps 90 [(0,.own 0 n),(1,.int .i64 a),(2,.int .i64 b),(3,.int .i64 p),(4,.fn (.func 60) [] []),(10,.int .i64 0),(11,.int .i64 r.1),(12,.int .i64 (s:Nat))],[.reg 34 12 (rows r.2)]⟩) (fun _=>True) (QBm (QAJ ?_)) ?_
 ·simp +decide -dsimp -implicitDefEqProofs [go_sem]
  refine QFp (S:=Nat × Nat × Array Rcd) (fun s=>⟨tmps 90 [(0,.own 0 n),(1,.int .i64 a),(2,.int .i64 b),(3,.int .i64 p),(4,.fn (.func 60) [] []),(10,.int .i64 0),(11,.int .i64 s.1),(12,.int .i64 s.2.1)],[.reg 34 12 (rows s.2.2)]⟩) (fun s=>s.2.1 + 1 - s.1) (fun s=>a + 1 ≤ s.1 ∧ s.1 ≤ s.2.1 + 1 ∧ s.2.1 < b ∧ s.2.2.size = n ∧ okP s.2.2 ∧ r = partEqLoop ltR a s.1 s.2.1 s.2.2) (i3,j3,e) ⟨by show a + 1 ≤ i3; omega,by show i3 ≤ j3 + 1; omega,by show j3 < b; omega,he,hoe,hr⟩ (QAD (by simp) ?_) ?_
  ·simp +decide -dsimp -implicitDefEqProofs [go_sem]
   exact QAG _ _
  rintro ⟨i,j,f⟩ ⟨q1,q2,q3,q4,q5,q6⟩
  simp only at q1 q2 q3 q4 q5 q6
  have hle:(rows f).length = n:=by rw [QBH,q4]
  have ga:=QAW (d:=f) (j:=a) (by omega) (by omega)
  obtain ⟨i5,hi5⟩:∃ x,x = scanUp (fun x=>!ltR f[a]! x) f j i:=⟨_,rfl⟩
  obtain ⟨j5,hj5⟩:∃ x,x = scanDown (fun x=>ltR f[a]! x) f i5 j:=⟨_,rfl⟩
  have bi:=scanUp_spec (fun x=>!ltR f[a]! x) f j _ i rfl
  rw [← hi5] at bi
  have bj:=scanDown_spec (fun x=>ltR f[a]! x) f i5 j
  rw [← hj5] at bj
  have bi1:=bi.1
  have bi2:=bi.2.1 (by omega)
  have bj1:=bj.1
  have bj2:=bj.2.1 (by omega)
  clear bi bj
  rw [partEqLoop_eq,← hi5,← hj5] at q6
  refine QBm ?_
  refine QAL ⟨tmps 90 [(0,.own 0 n),(1,.int .i64 a),(2,.int .i64 b),(3,.int .i64 p),(4,.fn (.func 60) [] []),(10,.int .i64 0),(11,.int .i64 i5),(12,.int .i64 j)],[.reg 34 12 (rows f)]⟩ (QAJ ?_) ?_
  ·
   simp +decide -dsimp -implicitDefEqProofs [go_sem]
   refine QAR (S:=Nat) (fun s=>⟨tmps 90 [(0,.own 0 n),(1,.int .i64 a),(2,.int .i64 b),(3,.int .i64 p),(4,.fn (.func 60) [] []),(10,.int .i64 0),(11,.int .i64 (s:Nat)),(12,.int .i64 j)],[.reg 34 12 (rows f)]⟩) (fun s=>j + 1 - s) (fun s=>a + 1 ≤ s ∧ s ≤ j + 1 ∧ i5 = scanUp (fun x=>!ltR f[a]! x) f j s) (i) ⟨by omega,by omega,hi5⟩ (QAD (by simp) ?_) ?_
   ·simp +decide -dsimp -implicitDefEqProofs [go_sem]
    exact QAG _ _
   rintro s ⟨s1,s2,s3⟩
   by_cases h:s ≤ j
   ·have gi:=QAW (d:=f) (j:=s) (by omega) (by omega)
    have hsn:s < n:=by omega
    have cl:=QDH _ _ (QA9 q5 (j:=a) (by omega)) (QA9 q5 (j:=s) (by omega))
    have w1:IntKind.i64.wrap ((s:Int) + 1) = s + 1:=w64 (by omega) (by omega)
    simp +decide -dsimp -implicitDefEqProofs [go_sem,h,hle,hsn,han,gi,ga,QAN,QAP]
    refine QAO cl (by simp +decide -dsimp -implicitDefEqProofs [go_sem,QAg]) rfl ?_
    by_cases hlt:QEv f[a]!.path f[s]!.path < 0
    ·conv at s3=>rhs; rw [scanUp,if_neg (by simp [ltR,hlt])]
     subst s3
     simp +decide -dsimp -implicitDefEqProofs [go_sem,hlt]
     refine QAH (by simp) ?_
     simp +decide -dsimp -implicitDefEqProofs [go_sem]
     exact QAG _ _
    ·conv at s3=>rhs; rw [scanUp,if_pos (by simpa [ltR,hlt] using h)]
     simp +decide -dsimp -implicitDefEqProofs [go_sem,hlt,w1]
     refine QAI (s + 1) ⟨by omega,by omega,s3⟩ (by omega) (QAD (by simp) ?_)
     simp +decide -dsimp -implicitDefEqProofs [go_sem]
     exact QAG _ _
   ·conv at s3=>rhs; rw [scanUp,if_neg (by simp [h])]
    subst s3
    simp +decide -dsimp -implicitDefEqProofs [go_sem,h]
    refine QAH (by simp) ?_
    simp +decide -dsimp -implicitDefEqProofs [go_sem]
    exact QAG _ _
  refine QAL ⟨tmps 90 [(0,.own 0 n),(1,.int .i64 a),(2,.int .i64 b),(3,.int .i64 p),(4,.fn (.func 60) [] []),(10,.int .i64 0),(11,.int .i64 i5),(12,.int .i64 j5)],[.reg 34 12 (rows f)]⟩ (QAJ ?_) ?_
  ·
   simp +decide -dsimp -implicitDefEqProofs [go_sem]
   refine QAR (S:=Nat) (fun s=>⟨tmps 90 [(0,.own 0 n),(1,.int .i64 a),(2,.int .i64 b),(3,.int .i64 p),(4,.fn (.func 60) [] []),(10,.int .i64 0),(11,.int .i64 i5),(12,.int .i64 (s:Nat))],[.reg 34 12 (rows f)]⟩) (fun s=>s) (fun s=>s ≤ j ∧ i5 ≤ s + 1 ∧ j5 = scanDown (fun x=>ltR f[a]! x) f i5 s) (j) ⟨by omega,by omega,hj5⟩ (QAD (by simp) ?_) ?_
   ·simp +decide -dsimp -implicitDefEqProofs [go_sem]
    exact QAG _ _
   rintro s ⟨s1,s2,s3⟩
   by_cases h:i5 ≤ s
   ·have gi:=QAW (d:=f) (j:=s) (by omega) (by omega)
    have hsn:s < n:=by omega
    have cl:=QDH _ _ (QA9 q5 (j:=a) (by omega)) (QA9 q5 (j:=s) (by omega))
    have w1:IntKind.i64.wrap ((s:Int) - 1) = ((s - 1:Nat):Int):=by rw [w64 (by omega) (by omega)]; omega
    simp +decide -dsimp -implicitDefEqProofs [go_sem,h,hle,hsn,han,gi,ga,QAN,QAP]
    refine QAO cl (by simp +decide -dsimp -implicitDefEqProofs [go_sem,QAg]) rfl ?_
    by_cases hlt:QEv f[a]!.path f[s]!.path < 0
    ·rw [QEZ _ _ _ _ h (by omega) (by simp [ltR,hlt])] at s3
     simp +decide -dsimp -implicitDefEqProofs [go_sem,hlt,w1]
     refine QAI (s - 1) ⟨by omega,by omega,s3⟩ (by omega) (QAD (by simp) ?_)
     simp +decide -dsimp -implicitDefEqProofs [go_sem]
     exact QAG _ _
    ·rw [QB4 _ _ _ _ (.inr (by simp [ltR,hlt]))] at s3
     subst s3
     simp +decide -dsimp -implicitDefEqProofs [go_sem,hlt]
     refine QAH (by simp) ?_
     simp +decide -dsimp -implicitDefEqProofs [go_sem]
     exact QAG _ _
   ·rw [QB4 _ _ _ _ (.inl h)] at s3
    subst s3
    simp +decide -dsimp -implicitDefEqProofs [go_sem,h]
    refine QAH (by simp) ?_
    simp +decide -dsimp -implicitDefEqProofs [go_sem]
    exact QAG _ _
  by_cases hij5:i5 > j5
  ·have hij6:(j5:Int) < (i5:Int):=by omega
   rw [if_pos hij5] at q6
   rw [q6]
   refine QAJ ?_
   simp +decide -dsimp -implicitDefEqProofs [go_sem,hij6]
   refine QBt j5 trivial (QAD (by simp) ?_)
   simp +decide -dsimp -implicitDefEqProofs [go_sem]
   exact QAG _ _
  have hij6:¬ (j5:Int) < (i5:Int):=by omega
  have hl5:i5 < j5:=QN3 hi5 hj5 (by omega) (by omega)
  rw [if_neg hij5] at q6
  have hin5:i5 < n:=by omega
  have hjn5:j5 < n:=by omega
  have gx:=QAW (d:=f) (j:=i5) (by omega) (by omega)
  have gy:=QAW (d:=f) (j:=j5) (by omega) (by omega)
  have hsw:=QBd f i5 j5
  have wi:IntKind.i64.wrap ((i5:Int) + 1) = (i5:Int) + 1:=w64 (by omega) (by omega)
  have wj:IntKind.i64.wrap ((j5:Int) - 1) = ((j5 - 1:Nat):Int):=by rw [w64 (by omega) (by omega)]; omega
  refine QAJ ?_
  simp +decide -dsimp -implicitDefEqProofs [go_sem,hij6,hle,hin5,hjn5,gx,gy,QAN,QAP,QA3,QAq,QAm,wi,wj]
  rw [hsw]
  refine QAI (i5 + 1,j5 - 1,swp f i5 j5) ⟨by show a + 1 ≤ i5 + 1; omega,by show i5 + 1 ≤ j5 - 1 + 1; omega,by show j5 - 1 < b; omega,by show (swp f i5 j5).size = n; rw [QA2,q4],QBj q5 (by omega) (by omega),q6⟩ (by show j5 - 1 + 1 - (i5 + 1) < j + 1 - i; omega) (QAD (by simp) ?_)
  simp +decide -dsimp -implicitDefEqProofs [go_sem]
  exact QAG _ _
 rintro s _
 refine QAJ ?_
 simp +decide -dsimp -implicitDefEqProofs [go_sem]
 exact QAG _ _
end Go.Ab
