/- A layer of abstract values over the model, and what is proved with it: part SA. -/
import Derived.Test.YtpknaffdaemlbaaGreatDoorOX
import Derived.Test.YtpknaffdaemlbaaGreatDoorCX
import Derived.Test.YtpknaffdaemlbaaGreatDoorT2
import Derived.Sort.LotC
namespace Go.Ab
open Go Go.Proofs
def c130 : AFn := ⟨(sq [(mv 13 1), (mv 8 13)] (sq [(ox 9 (.mov (iv 0)))] (sq [(mv 14 2), (mv 15 1), (ox 16 (b2 .sub 14 15)), (mv 10 16)] (.seq (sq [(mv 17 10), (ox 18 (b1 .sub 17 1)), (ox 19 (b1 .quo 18 2)), (mv 11 19)] (.block 0 (.loop (.seq (sq [(mv 20 11), (ox 21 (b1 .geq 20 0))] (cd 21 .skip (.exit 0))) (.seq (.block 1 (.ops [(mv 24 0), (mv 25 11), (mv 26 10), (mv 27 8), (mv 28 3), (ox 29 (fc 170 [(.t 24), (.t 25), (.t 26), (.t 27), (.t 28)]))])) (.ops [(mv 22 11), (ox 23 (b1 .sub 22 1)), (mv 11 23)])))))) (sq [(mv 30 10), (ox 31 (b1 .sub 30 1)), (mv 12 31)] (.block 2 (.loop (.seq (sq [(mv 32 12), (ox 33 (b1 .geq 32 0))] (cd 33 .skip (.exit 2))) (.seq (.block 3 (.seq (.draw [(mv 36 0), (mv 37 8), (mv 38 0), (mv 39 8), (mv 40 12), (ox 41 (b2 .add 39 40)), (mv 42 0), (mv 43 8), (mv 44 12), (ox 45 (b2 .add 43 44)), (ox 46 (.iaddr none 12 (.t 42) (.t 45))), (ox 47 (.load (some 12) (.t 46))), (mv 48 0), (mv 49 8), (ox 50 (.iaddr none 12 (.t 48) (.t 49))), (ox 51 (.load (some 12) (.t 50))), (ox 52 (.iaddr none 12 (.t 36) (.t 37))), (on (.store (some 12) (.t 52) (.t 47))), (ox 53 (.iaddr none 12 (.t 38) (.t 41))), (on (.store (some 12) (.t 53) (.t 51)))] [0, 0, 0, 0, 0, 24, 0, 0, 0, 384, 960, 1984, 0, 0, 12288, 28672, 65475, 131011, 262143, 524287]) (.ops [(mv 54 0), (mv 55 9), (mv 56 12), (mv 57 8), (mv 58 3), (ox 59 (fc 170 [(.t 54), (.t 55), (.t 56), (.t 57), (.t 58)]))]))) (.ops [(mv 34 12), (ox 35 (b1 .sub 34 1)), (mv 12 35)])))))))))), 60, []⟩
theorem c130_ok : compileF Tryz.prog [] 130 = some c130 := by kernel_rfl
def c131 : AFn := ⟨(sq [(mv 13 2), (mv 14 1), (ox 15 (b2 .sub 13 14)), (mv 8 15)] (sq [(mv 16 8), (ox 17 (b1 .geq 16 8))] (cd 17 (sq [(mv 18 8), (ox 19 (.conv .u64 (.t 18))), (ox 9 (.alloc 208 [(.int .u64 0)])), (on (.store none (.t 9) (.t 19)))] (sq [(mv 20 8), (ox 21 (fc 171 [(.t 20)])), (mv 10 21)] (sq [(mv 22 1), (mv 23 8), (ox 24 (b1 .quo 23 4)), (ox 25 (b1 .mul 24 2)), (ox 26 (b2 .add 22 25)), (ox 27 (b1 .sub 26 1)), (mv 11 27)] (.block 0 (.loop (.seq (sq [(mv 28 11), (mv 29 1), (mv 30 8), (ox 31 (b1 .quo 30 4)), (ox 32 (b1 .mul 31 2)), (ox 33 (b2 .add 29 32)), (ox 34 (b1 .add 33 1)), (ox 35 (b2 .leq 28 34))] (cd 35 .skip (.exit 0))) (.seq (.block 1 (sq [(ox 38 (fc 172 [(.t 9)])), (mv 39 10), (ox 40 (.bin .sub (.t 39) (.v (.int .u64 1)))), (ox 41 (b2 .and 38 40)), (ox 42 (.conv .i64 (.t 41))), (mv 12 42)] (.seq (sq [(mv 43 12), (mv 44 8), (ox 45 (b2 .geq 43 44))] (cd 45 (.ops [(mv 46 12), (mv 47 8), (ox 48 (b2 .sub 46 47)), (mv 12 48)]) .skip)) (.draw [(mv 49 0), (mv 50 11), (mv 51 0), (mv 52 1), (mv 53 12), (ox 54 (b2 .add 52 53)), (mv 55 0), (mv 56 1), (mv 57 12), (ox 58 (b2 .add 56 57)), (ox 59 (.iaddr none 12 (.t 55) (.t 58))), (ox 60 (.load (some 12) (.t 59))), (mv 61 0), (mv 62 11), (ox 63 (.iaddr none 12 (.t 61) (.t 62))), (ox 64 (.load (some 12) (.t 63))), (ox 65 (.iaddr none 12 (.t 49) (.t 50))), (on (.store (some 12) (.t 65) (.t 60))), (ox 66 (.iaddr none 12 (.t 51) (.t 54))), (on (.store (some 12) (.t 66) (.t 64)))] [0, 0, 0, 0, 0, 24, 0, 0, 0, 384, 960, 1984, 0, 0, 12288, 28672, 65475, 131011, 262143, 524287])))) (.ops [(mv 36 11), (ox 37 (b1 .add 36 1)), (mv 11 37)])))))))) .skip))), 67, []⟩
theorem c131_ok : compileF Tryz.prog [] 131 = some c131 := by kernel_rfl
def c132 : AFn := ⟨(sq [(ox 8 (.mov (iv 0))), (ox 9 (.mov (iv 0)))] (sq [(mv 15 2), (mv 16 1), (ox 17 (b2 .sub 15 16)), (mv 10 17)] (sq [(ox 11 (.alloc 3 [(.int .i64 0)]))] (sq [(mv 18 1), (mv 19 10), (ox 20 (b1 .quo 19 4)), (ox 21 (b1 .mul 20 1)), (ox 22 (b2 .add 18 21)), (mv 12 22)] (sq [(mv 23 1), (mv 24 10), (ox 25 (b1 .quo 24 4)), (ox 26 (b1 .mul 25 2)), (ox 27 (b2 .add 23 26)), (mv 13 27)] (sq [(mv 28 1), (mv 29 10), (ox 30 (b1 .quo 29 4)), (ox 31 (b1 .mul 30 3)), (ox 32 (b2 .add 28 31)), (mv 14 32)] (.seq (sq [(mv 33 10), (ox 34 (b1 .geq 33 8))] (cd 34 (.seq (sq [(mv 35 10), (ox 36 (b1 .geq 35 50))] (cd 36 (sq [(mv 37 0), (mv 38 12), (mv 39 3), (ox 40 (fc 173 [(.t 37), (.t 38), (.t 11), (.t 39)])), (mv 12 40)] (sq [(mv 41 0), (mv 42 13), (mv 43 3), (ox 44 (fc 173 [(.t 41), (.t 42), (.t 11), (.t 43)])), (mv 13 44)] (.ops [(mv 45 0), (mv 46 14), (mv 47 3), (ox 48 (fc 173 [(.t 45), (.t 46), (.t 11), (.t 47)])), (mv 14 48)]))) .skip)) (.ops [(mv 49 0), (mv 50 12), (mv 51 13), (mv 52 14), (mv 53 3), (ox 54 (fc 174 [(.t 49), (.t 50), (.t 51), (.t 52), (.t 11), (.t 53)])), (mv 13 54)])) .skip)) (sq [(ox 55 (ld 11))] (.block 0 (sq [(ox 58 (b1 .eql 55 0)), (mv 57 58)] (cd 57 (sq [(mv 59 13), (mv 8 59), (ox 9 (.mov (iv 1)))] .ret) (sq [(ox 61 (b1 .eql 55 12)), (mv 60 61)] (cd 60 (sq [(mv 62 13), (mv 8 62), (ox 9 (.mov (iv 2)))] .ret) (sq [(mv 56 13), (mv 8 56), (ox 9 (.mov (iv 0)))] .ret)))))))))))))), 63, [(.tmp 8), (.tmp 9)]⟩
theorem c132_ok : compileF Tryz.prog [] 132 = some c132 := by kernel_rfl
def c133 : AFn := ⟨(sq [(mv 10 1), (mv 8 10)] (sq [(mv 11 2), (ox 12 (b1 .sub 11 1)), (mv 9 12)] (.block 0 (.loop (.seq (sq [(mv 13 8), (mv 14 9), (ox 15 (b2 .lss 13 14))] (cd 15 .skip (.exit 0))) (.block 1 (.seq (.draw [(mv 16 0), (mv 17 8), (mv 18 0), (mv 19 9), (mv 20 0), (mv 21 9), (ox 22 (.iaddr none 12 (.t 20) (.t 21))), (ox 23 (.load (some 12) (.t 22))), (mv 24 0), (mv 25 8), (ox 26 (.iaddr none 12 (.t 24) (.t 25))), (ox 27 (.load (some 12) (.t 26))), (ox 28 (.iaddr none 12 (.t 16) (.t 17))), (on (.store (some 12) (.t 28) (.t 23))), (ox 29 (.iaddr none 12 (.t 18) (.t 19))), (on (.store (some 12) (.t 29) (.t 27)))] [0, 0, 0, 0, 0, 0, 48, 112, 0, 0, 768, 1792, 4083, 8179, 16383, 32767]) (sq [(mv 30 8), (ox 31 (b1 .add 30 1)), (mv 8 31)] (.ops [(mv 32 9), (ox 33 (b1 .sub 32 1)), (mv 9 33)]))))))))), 34, []⟩
theorem c133_ok : compileF Tryz.prog [] 133 = some c133 := by kernel_rfl
def c134 : AFn := ⟨(sq [(ox 8 (mb false))] (sq [(mv 13 1), (ox 14 (b1 .add 13 1)), (mv 9 14)] (.seq (sq [(ox 10 (.mov (iv 0)))] (.block 0 (.loop (.seq (sq [(mv 15 10), (ox 16 (b1 .lss 15 5))] (cd 16 .skip (.exit 0))) (.seq (.block 1 (.seq (.block 2 (.loop (.seq (.seq (.draw [(mv 19 9), (mv 20 2), (ox 21 (b2 .lss 19 20)), (mv 22 21), (ot 23 (.mov (.t 3)) 22), (ot 24 (.mov (.t 0)) 22), (ot 25 (.mov (.t 9)) 22), (ot 26 (.iaddr none 12 (.t 24) (.t 25)) 22), (ot 27 (.load (some 12) (.t 26)) 22), (ot 28 (.mov (.t 0)) 22), (ot 29 (.mov (.t 9)) 22), (ot 30 (b1 .sub 29 1) 22), (ot 31 (.iaddr none 12 (.t 28) (.t 30)) 22), (ot 32 (.load (some 12) (.t 31)) 22), (ot 33 (.call (.t 23) [(.t 27), (.t 32)]) 22), (ot 34 (b1 .lss 33 0) 22), (ot 35 (.un .not (.t 34)) 22), (ox 36 (.pick (.t 22) (.t 35) (.v (.bool false))))] [0, 0, 3, 7, 15, 15, 15, 111, 239, 15, 15, 1039, 3599, 7695, 16383, 32767, 65535, 131071]) (cd 36 .skip (.exit 2))) (.block 3 (.ops [(mv 37 9), (ox 38 (b1 .add 37 1)), (mv 9 38)]))))) (.seq (sq [(mv 39 9), (mv 40 2), (ox 41 (b2 .eql 39 40))] (cd 41 (sq [(ox 8 (mb true))] .ret) .skip)) (.seq (sq [(mv 42 2), (mv 43 1), (ox 44 (b2 .sub 42 43)), (ox 45 (b1 .lss 44 50))] (cd 45 (sq [(ox 8 (mb false))] .ret) .skip)) (.seq (.draw [(mv 46 0), (mv 47 9), (mv 48 0), (mv 49 9), (ox 50 (b1 .sub 49 1)), (mv 51 0), (mv 52 9), (ox 53 (b1 .sub 52 1)), (ox 54 (.iaddr none 12 (.t 51) (.t 53))), (ox 55 (.load (some 12) (.t 54))), (mv 56 0), (mv 57 9), (ox 58 (.iaddr none 12 (.t 56) (.t 57))), (ox 59 (.load (some 12) (.t 58))), (ox 60 (.iaddr none 12 (.t 46) (.t 47))), (on (.store (some 12) (.t 60) (.t 55))), (ox 61 (.iaddr none 12 (.t 48) (.t 50))), (on (.store (some 12) (.t 61) (.t 59)))] [0, 0, 0, 0, 8, 0, 0, 64, 224, 480, 0, 0, 3072, 7168, 16355, 32739, 65535, 131071]) (.seq (sq [(mv 62 9), (mv 63 1), (ox 64 (b2 .sub 62 63)), (ox 65 (b1 .geq 64 2))] (cd 65 (sq [(mv 66 9), (ox 67 (b1 .sub 66 1)), (mv 11 67)] (.block 4 (.loop (.seq (sq [(mv 68 11), (ox 69 (b1 .geq 68 1))] (cd 69 .skip (.exit 4))) (.seq (.block 5 (.seq (.seq (.draw [(mv 72 3), (mv 73 0), (mv 74 11), (ox 75 (.iaddr none 12 (.t 73) (.t 74))), (ox 76 (.load (some 12) (.t 75))), (mv 77 0), (mv 78 11), (ox 79 (b1 .sub 78 1)), (ox 80 (.iaddr none 12 (.t 77) (.t 79))), (ox 81 (.load (some 12) (.t 80))), (ox 82 (.call (.t 72) [(.t 76), (.t 81)])), (ox 83 (b1 .lss 82 0)), (ox 84 (.un .not (.t 83)))] [0, 0, 0, 6, 14, 0, 0, 64, 224, 480, 1023, 2047, 4095]) (cd 84 (.exit 4) .skip)) (.draw [(mv 85 0), (mv 86 11), (mv 87 0), (mv 88 11), (ox 89 (b1 .sub 88 1)), (mv 90 0), (mv 91 11), (ox 92 (b1 .sub 91 1)), (ox 93 (.iaddr none 12 (.t 90) (.t 92))), (ox 94 (.load (some 12) (.t 93))), (mv 95 0), (mv 96 11), (ox 97 (.iaddr none 12 (.t 95) (.t 96))), (ox 98 (.load (some 12) (.t 97))), (ox 99 (.iaddr none 12 (.t 85) (.t 86))), (on (.store (some 12) (.t 99) (.t 94))), (ox 100 (.iaddr none 12 (.t 87) (.t 89))), (on (.store (some 12) (.t 100) (.t 98)))] [0, 0, 0, 0, 8, 0, 0, 64, 224, 480, 0, 0, 3072, 7168, 16355, 32739, 65535, 131071]))) (.ops [(mv 70 11), (ox 71 (b1 .sub 70 1)), (mv 11 71)])))))) .skip)) (sq [(mv 101 2), (mv 102 9), (ox 103 (b2 .sub 101 102)), (ox 104 (b1 .geq 103 2))] (cd 104 (sq [(mv 105 9), (ox 106 (b1 .add 105 1)), (mv 12 106)] (.block 6 (.loop (.seq (sq [(mv 107 12), (mv 108 2), (ox 109 (b2 .lss 107 108))] (cd 109 .skip (.exit 6))) (.seq (.block 7 (.seq (.seq (.draw [(mv 112 3), (mv 113 0), (mv 114 12), (ox 115 (.iaddr none 12 (.t 113) (.t 114))), (ox 116 (.load (some 12) (.t 115))), (mv 117 0), (mv 118 12), (ox 119 (b1 .sub 118 1)), (ox 120 (.iaddr none 12 (.t 117) (.t 119))), (ox 121 (.load (some 12) (.t 120))), (ox 122 (.call (.t 112) [(.t 116), (.t 121)])), (ox 123 (b1 .lss 122 0)), (ox 124 (.un .not (.t 123)))] [0, 0, 0, 6, 14, 0, 0, 64, 224, 480, 1023, 2047, 4095]) (cd 124 (.exit 6) .skip)) (.draw [(mv 125 0), (mv 126 12), (mv 127 0), (mv 128 12), (ox 129 (b1 .sub 128 1)), (mv 130 0), (mv 131 12), (ox 132 (b1 .sub 131 1)), (ox 133 (.iaddr none 12 (.t 130) (.t 132))), (ox 134 (.load (some 12) (.t 133))), (mv 135 0), (mv 136 12), (ox 137 (.iaddr none 12 (.t 135) (.t 136))), (ox 138 (.load (some 12) (.t 137))), (ox 139 (.iaddr none 12 (.t 125) (.t 126))), (on (.store (some 12) (.t 139) (.t 134))), (ox 140 (.iaddr none 12 (.t 127) (.t 129))), (on (.store (some 12) (.t 140) (.t 138)))] [0, 0, 0, 0, 8, 0, 0, 64, 224, 480, 0, 0, 3072, 7168, 16355, 32739, 65535, 131071]))) (.ops [(mv 110 12), (ox 111 (b1 .add 110 1)), (mv 12 111)])))))) .skip)))))))) (.ops [(mv 17 10), (ox 18 (b1 .add 17 1)), (mv 10 18)])))))) (sq [(ox 8 (mb false))] .ret)))), 141, [(.tmp 8)]⟩
theorem c134_ok : compileF Tryz.prog [] 134 = some c134 := by kernel_rfl
def c135 : AFn := ⟨(sq [(ox 10 (.mov (iv 0)))] (.seq (.draw [(mv 13 0), (mv 14 1), (mv 15 0), (mv 16 3), (mv 17 0), (mv 18 3), (ox 19 (.iaddr none 12 (.t 17) (.t 18))), (ox 20 (.load (some 12) (.t 19))), (mv 21 0), (mv 22 1), (ox 23 (.iaddr none 12 (.t 21) (.t 22))), (ox 24 (.load (some 12) (.t 23))), (ox 25 (.iaddr none 12 (.t 13) (.t 14))), (on (.store (some 12) (.t 25) (.t 20))), (ox 26 (.iaddr none 12 (.t 15) (.t 16))), (on (.store (some 12) (.t 26) (.t 24)))] [0, 0, 0, 0, 0, 0, 48, 112, 0, 0, 768, 1792, 4083, 8179, 16383, 32767]) (sq [(mv 27 1), (ox 28 (b1 .add 27 1)), (mv 29 2), (ox 30 (b1 .sub 29 1)), (mv 11 28), (mv 12 30)] (.seq (.block 0 (.loop (.block 1 (.seq (.block 2 (.loop (.seq (.seq (.draw [(mv 31 11), (mv 32 12), (ox 33 (b2 .leq 31 32)), (mv 34 33), (ot 35 (.mov (.t 4)) 34), (ot 36 (.mov (.t 0)) 34), (ot 37 (.mov (.t 1)) 34), (ot 38 (.iaddr none 12 (.t 36) (.t 37)) 34), (ot 39 (.load (some 12) (.t 38)) 34), (ot 40 (.mov (.t 0)) 34), (ot 41 (.mov (.t 11)) 34), (ot 42 (.iaddr none 12 (.t 40) (.t 41)) 34), (ot 43 (.load (some 12) (.t 42)) 34), (ot 44 (.call (.t 35) [(.t 39), (.t 43)]) 34), (ot 45 (b1 .lss 44 0) 34), (ot 46 (.un .not (.t 45)) 34), (ox 47 (.pick (.t 34) (.t 46) (.v (.bool false))))] [0, 0, 3, 7, 15, 15, 15, 111, 239, 15, 15, 1551, 3599, 8191, 16383, 32767, 65535]) (cd 47 .skip (.exit 2))) (.block 3 (.ops [(mv 48 11), (ox 49 (b1 .add 48 1)), (mv 11 49)]))))) (.seq (.block 4 (.loop (.seq (.seq (.draw [(mv 50 11), (mv 51 12), (ox 52 (b2 .leq 50 51)), (mv 53 52), (ot 54 (.mov (.t 4)) 53), (ot 55 (.mov (.t 0)) 53), (ot 56 (.mov (.t 1)) 53), (ot 57 (.iaddr none 12 (.t 55) (.t 56)) 53), (ot 58 (.load (some 12) (.t 57)) 53), (ot 59 (.mov (.t 0)) 53), (ot 60 (.mov (.t 12)) 53), (ot 61 (.iaddr none 12 (.t 59) (.t 60)) 53), (ot 62 (.load (some 12) (.t 61)) 53), (ot 63 (.call (.t 54) [(.t 58), (.t 62)]) 53), (ot 64 (b1 .lss 63 0) 53), (ox 65 (.pick (.t 53) (.t 64) (.v (.bool false))))] [0, 0, 3, 7, 15, 15, 15, 111, 239, 15, 15, 1551, 3599, 8191, 16383, 32767]) (cd 65 .skip (.exit 4))) (.block 5 (.ops [(mv 66 12), (ox 67 (b1 .sub 66 1)), (mv 12 67)]))))) (.seq (sq [(mv 68 11), (mv 69 12), (ox 70 (b2 .gtr 68 69))] (cd 70 (.exit 0) .skip)) (.seq (.draw [(mv 71 0), (mv 72 11), (mv 73 0), (mv 74 12), (mv 75 0), (mv 76 12), (ox 77 (.iaddr none 12 (.t 75) (.t 76))), (ox 78 (.load (some 12) (.t 77))), (mv 79 0), (mv 80 11), (ox 81 (.iaddr none 12 (.t 79) (.t 80))), (ox 82 (.load (some 12) (.t 81))), (ox 83 (.iaddr none 12 (.t 71) (.t 72))), (on (.store (some 12) (.t 83) (.t 78))), (ox 84 (.iaddr none 12 (.t 73) (.t 74))), (on (.store (some 12) (.t 84) (.t 82)))] [0, 0, 0, 0, 0, 0, 48, 112, 0, 0, 768, 1792, 4083, 8179, 16383, 32767]) (sq [(mv 85 11), (ox 86 (b1 .add 85 1)), (mv 11 86)] (.ops [(mv 87 12), (ox 88 (b1 .sub 87 1)), (mv 12 88)]))))))))) (sq [(mv 89 11), (mv 10 89)] .ret))))), 90, [(.tmp 10)]⟩
theorem c135_ok : compileF Tryz.prog [] 135 = some c135 := by kernel_rfl
def c136 : AFn := ⟨(sq [(ox 10 (.mov (iv 0))), (ox 11 (mb false))] (.seq (.draw [(mv 14 0), (mv 15 1), (mv 16 0), (mv 17 3), (mv 18 0), (mv 19 3), (ox 20 (.iaddr none 12 (.t 18) (.t 19))), (ox 21 (.load (some 12) (.t 20))), (mv 22 0), (mv 23 1), (ox 24 (.iaddr none 12 (.t 22) (.t 23))), (ox 25 (.load (some 12) (.t 24))), (ox 26 (.iaddr none 12 (.t 14) (.t 15))), (on (.store (some 12) (.t 26) (.t 21))), (ox 27 (.iaddr none 12 (.t 16) (.t 17))), (on (.store (some 12) (.t 27) (.t 25)))] [0, 0, 0, 0, 0, 0, 48, 112, 0, 0, 768, 1792, 4083, 8179, 16383, 32767]) (sq [(mv 28 1), (ox 29 (b1 .add 28 1)), (mv 30 2), (ox 31 (b1 .sub 30 1)), (mv 12 29), (mv 13 31)] (.seq (.block 0 (.loop (.seq (.seq (.draw [(mv 32 12), (mv 33 13), (ox 34 (b2 .leq 32 33)), (mv 35 34), (ot 36 (.mov (.t 4)) 35), (ot 37 (.mov (.t 0)) 35), (ot 38 (.mov (.t 12)) 35), (ot 39 (.iaddr none 12 (.t 37) (.t 38)) 35), (ot 40 (.load (some 12) (.t 39)) 35), (ot 41 (.mov (.t 0)) 35), (ot 42 (.mov (.t 1)) 35), (ot 43 (.iaddr none 12 (.t 41) (.t 42)) 35), (ot 44 (.load (some 12) (.t 43)) 35), (ot 45 (.call (.t 36) [(.t 40), (.t 44)]) 35), (ot 46 (b1 .lss 45 0) 35), (ox 47 (.pick (.t 35) (.t 46) (.v (.bool false))))] [0, 0, 3, 7, 15, 15, 15, 111, 239, 15, 15, 1551, 3599, 8191, 16383, 32767]) (cd 47 .skip (.exit 0))) (.block 1 (.ops [(mv 48 12), (ox 49 (b1 .add 48 1)), (mv 12 49)]))))) (.seq (.block 2 (.loop (.seq (.seq (.draw [(mv 50 12), (mv 51 13), (ox 52 (b2 .leq 50 51)), (mv 53 52), (ot 54 (.mov (.t 4)) 53), (ot 55 (.mov (.t 0)) 53), (ot 56 (.mov (.t 13)) 53), (ot 57 (.iaddr none 12 (.t 55) (.t 56)) 53), (ot 58 (.load (some 12) (.t 57)) 53), (ot 59 (.mov (.t 0)) 53), (ot 60 (.mov (.t 1)) 53), (ot 61 (.iaddr none 12 (.t 59) (.t 60)) 53), (ot 62 (.load (some 12) (.t 61)) 53), (ot 63 (.call (.t 54) [(.t 58), (.t 62)]) 53), (ot 64 (b1 .lss 63 0) 53), (ot 65 (.un .not (.t 64)) 53), (ox 66 (.pick (.t 53) (.t 65) (.v (.bool false))))] [0, 0, 3, 7, 15, 15, 15, 111, 239, 15, 15, 1551, 3599, 8191, 16383, 32767, 65535]) (cd 66 .skip (.exit 2))) (.block 3 (.ops [(mv 67 13), (ox 68 (b1 .sub 67 1)), (mv 13 68)]))))) (.seq (sq [(mv 69 12), (mv 70 13), (ox 71 (b2 .gtr 69 70))] (cd 71 (.seq (.draw [(mv 72 0), (mv 73 13), (mv 74 0), (mv 75 1), (mv 76 0), (mv 77 1), (ox 78 (.iaddr none 12 (.t 76) (.t 77))), (ox 79 (.load (some 12) (.t 78))), (mv 80 0), (mv 81 13), (ox 82 (.iaddr none 12 (.t 80) (.t 81))), (ox 83 (.load (some 12) (.t 82))), (ox 84 (.iaddr none 12 (.t 72) (.t 73))), (on (.store (some 12) (.t 84) (.t 79))), (ox 85 (.iaddr none 12 (.t 74) (.t 75))), (on (.store (some 12) (.t 85) (.t 83)))] [0, 0, 0, 0, 0, 0, 48, 112, 0, 0, 768, 1792, 4083, 8179, 16383, 32767]) (sq [(mv 86 13), (mv 10 86), (ox 11 (mb true))] .ret)) .skip)) (.seq (.draw [(mv 87 0), (mv 88 12), (mv 89 0), (mv 90 13), (mv 91 0), (mv 92 13), (ox 93 (.iaddr none 12 (.t 91) (.t 92))), (ox 94 (.load (some 12) (.t 93))), (mv 95 0), (mv 96 12), (ox 97 (.iaddr none 12 (.t 95) (.t 96))), (ox 98 (.load (some 12) (.t 97))), (ox 99 (.iaddr none 12 (.t 87) (.t 88))), (on (.store (some 12) (.t 99) (.t 94))), (ox 100 (.iaddr none 12 (.t 89) (.t 90))), (on (.store (some 12) (.t 100) (.t 98)))] [0, 0, 0, 0, 0, 0, 48, 112, 0, 0, 768, 1792, 4083, 8179, 16383, 32767]) (sq [(mv 101 12), (ox 102 (b1 .add 101 1)), (mv 12 102)] (sq [(mv 103 13), (ox 104 (b1 .sub 103 1)), (mv 13 104)] (.seq (.block 4 (.loop (.block 5 (.seq (.block 6 (.loop (.seq (.seq (.draw [(mv 105 12), (mv 106 13), (ox 107 (b2 .leq 105 106)), (mv 108 107), (ot 109 (.mov (.t 4)) 108), (ot 110 (.mov (.t 0)) 108), (ot 111 (.mov (.t 12)) 108), (ot 112 (.iaddr none 12 (.t 110) (.t 111)) 108), (ot 113 (.load (some 12) (.t 112)) 108), (ot 114 (.mov (.t 0)) 108), (ot 115 (.mov (.t 1)) 108), (ot 116 (.iaddr none 12 (.t 114) (.t 115)) 108), (ot 117 (.load (some 12) (.t 116)) 108), (ot 118 (.call (.t 109) [(.t 113), (.t 117)]) 108), (ot 119 (b1 .lss 118 0) 108), (ox 120 (.pick (.t 108) (.t 119) (.v (.bool false))))] [0, 0, 3, 7, 15, 15, 15, 111, 239, 15, 15, 1551, 3599, 8191, 16383, 32767]) (cd 120 .skip (.exit 6))) (.block 7 (.ops [(mv 121 12), (ox 122 (b1 .add 121 1)), (mv 12 122)]))))) (.seq (.block 8 (.loop (.seq (.seq (.draw [(mv 123 12), (mv 124 13), (ox 125 (b2 .leq 123 124)), (mv 126 125), (ot 127 (.mov (.t 4)) 126), (ot 128 (.mov (.t 0)) 126), (ot 129 (.mov (.t 13)) 126), (ot 130 (.iaddr none 12 (.t 128) (.t 129)) 126), (ot 131 (.load (some 12) (.t 130)) 126), (ot 132 (.mov (.t 0)) 126), (ot 133 (.mov (.t 1)) 126), (ot 134 (.iaddr none 12 (.t 132) (.t 133)) 126), (ot 135 (.load (some 12) (.t 134)) 126), (ot 136 (.call (.t 127) [(.t 131), (.t 135)]) 126), (ot 137 (b1 .lss 136 0) 126), (ot 138 (.un .not (.t 137)) 126), (ox 139 (.pick (.t 126) (.t 138) (.v (.bool false))))] [0, 0, 3, 7, 15, 15, 15, 111, 239, 15, 15, 1551, 3599, 8191, 16383, 32767, 65535]) (cd 139 .skip (.exit 8))) (.block 9 (.ops [(mv 140 13), (ox 141 (b1 .sub 140 1)), (mv 13 141)]))))) (.seq (sq [(mv 142 12), (mv 143 13), (ox 144 (b2 .gtr 142 143))] (cd 144 (.exit 4) .skip)) (.seq (.draw [(mv 145 0), (mv 146 12), (mv 147 0), (mv 148 13), (mv 149 0), (mv 150 13), (ox 151 (.iaddr none 12 (.t 149) (.t 150))), (ox 152 (.load (some 12) (.t 151))), (mv 153 0), (mv 154 12), (ox 155 (.iaddr none 12 (.t 153) (.t 154))), (ox 156 (.load (some 12) (.t 155))), (ox 157 (.iaddr none 12 (.t 145) (.t 146))), (on (.store (some 12) (.t 157) (.t 152))), (ox 158 (.iaddr none 12 (.t 147) (.t 148))), (on (.store (some 12) (.t 158) (.t 156)))] [0, 0, 0, 0, 0, 0, 48, 112, 0, 0, 768, 1792, 4083, 8179, 16383, 32767]) (sq [(mv 159 12), (ox 160 (b1 .add 159 1)), (mv 12 160)] (.ops [(mv 161 13), (ox 162 (b1 .sub 161 1)), (mv 13 162)]))))))))) (.seq (.draw [(mv 163 0), (mv 164 13), (mv 165 0), (mv 166 1), (mv 167 0), (mv 168 1), (ox 169 (.iaddr none 12 (.t 167) (.t 168))), (ox 170 (.load (some 12) (.t 169))), (mv 171 0), (mv 172 13), (ox 173 (.iaddr none 12 (.t 171) (.t 172))), (ox 174 (.load (some 12) (.t 173))), (ox 175 (.iaddr none 12 (.t 163) (.t 164))), (on (.store (some 12) (.t 175) (.t 170))), (ox 176 (.iaddr none 12 (.t 165) (.t 166))), (on (.store (some 12) (.t 176) (.t 174)))] [0, 0, 0, 0, 0, 0, 48, 112, 0, 0, 768, 1792, 4083, 8179, 16383, 32767]) (sq [(mv 177 13), (mv 10 177), (ox 11 (mb false))] .ret)))))))))))), 178, [(.tmp 10), (.tmp 11)]⟩
theorem c136_ok : compileF Tryz.prog [] 136 = some c136 := by kernel_rfl
def c170 : AFn := ⟨(sq [(mv 12 1), (mv 10 12)] (.block 0 (.loop (.block 1 (sq [(mv 13 10), (ox 14 (.bin .mul (iv 2) (.t 13))), (ox 15 (b1 .add 14 1)), (mv 11 15)] (.seq (sq [(mv 16 11), (mv 17 2), (ox 18 (b2 .geq 16 17))] (cd 18 (.exit 0) .skip)) (.seq (.seq (.draw [(mv 19 11), (ox 20 (b1 .add 19 1)), (mv 21 2), (ox 22 (b2 .lss 20 21)), (mv 23 22), (ot 24 (.mov (.t 4)) 23), (ot 25 (.mov (.t 0)) 23), (ot 26 (.mov (.t 3)) 23), (ot 27 (.mov (.t 11)) 23), (ot 28 (b2 .add 26 27) 23), (ot 29 (.iaddr none 12 (.t 25) (.t 28)) 23), (ot 30 (.load (some 12) (.t 29)) 23), (ot 31 (.mov (.t 0)) 23), (ot 32 (.mov (.t 3)) 23), (ot 33 (.mov (.t 11)) 23), (ot 34 (b2 .add 32 33) 23), (ot 35 (b1 .add 34 1) 23), (ot 36 (.iaddr none 12 (.t 31) (.t 35)) 23), (ot 37 (.load (some 12) (.t 36)) 23), (ot 38 (.call (.t 24) [(.t 30), (.t 37)]) 23), (ot 39 (b1 .lss 38 0) 23), (ox 40 (.pick (.t 23) (.t 39) (.v (.bool false))))] [0, 1, 0, 7, 15, 31, 31, 31, 31, 415, 991, 2015, 31, 31, 31, 24607, 57375, 127007, 258079, 524287, 1048575, 2097151]) (cd 40 (.ops [(mv 41 11), (ox 42 (b1 .add 41 1)), (mv 11 42)]) .skip)) (.seq (.seq (.draw [(mv 43 4), (mv 44 0), (mv 45 3), (mv 46 10), (ox 47 (b2 .add 45 46)), (ox 48 (.iaddr none 12 (.t 44) (.t 47))), (ox 49 (.load (some 12) (.t 48))), (mv 50 0), (mv 51 3), (mv 52 11), (ox 53 (b2 .add 51 52)), (ox 54 (.iaddr none 12 (.t 50) (.t 53))), (ox 55 (.load (some 12) (.t 54))), (ox 56 (.call (.t 43) [(.t 49), (.t 55)])), (ox 57 (b1 .lss 56 0)), (ox 58 (.un .not (.t 57)))] [0, 0, 0, 0, 12, 30, 62, 0, 0, 0, 768, 1920, 3968, 8191, 16383, 32767]) (cd 58 .ret .skip)) (.seq (.draw [(mv 59 0), (mv 60 3), (mv 61 10), (ox 62 (b2 .add 60 61)), (mv 63 0), (mv 64 3), (mv 65 11), (ox 66 (b2 .add 64 65)), (mv 67 0), (mv 68 3), (mv 69 11), (ox 70 (b2 .add 68 69)), (ox 71 (.iaddr none 12 (.t 67) (.t 70))), (ox 72 (.load (some 12) (.t 71))), (mv 73 0), (mv 74 3), (mv 75 10), (ox 76 (b2 .add 74 75)), (ox 77 (.iaddr none 12 (.t 73) (.t 76))), (ox 78 (.load (some 12) (.t 77))), (ox 79 (.iaddr none 12 (.t 59) (.t 62))), (on (.store (some 12) (.t 79) (.t 72))), (ox 80 (.iaddr none 12 (.t 63) (.t 66))), (on (.store (some 12) (.t 80) (.t 78)))] [0, 0, 0, 6, 0, 0, 0, 96, 0, 0, 0, 1536, 3840, 7936, 0, 0, 0, 98304, 245760, 507904, 1048335, 2096911, 4194303, 8388607]) (.ops [(mv 81 11), (mv 10 81)])))))))))), 82, []⟩
theorem c170_ok : compileF Tryz.prog [] 170 = some c170 := by kernel_rfl
def c171 : AFn := ⟨(sq [(ox 2 (.mov (.v (.int .u64 0))))] (sq [(mv 3 0), (ox 4 (.conv .u64 (.t 3))), (ox 5 (fc 95 [(.t 4)])), (ox 6 (.ext (.shift true) [(.v (.int .u64 1)), (.t 5)])), (mv 2 6)] .ret)), 7, [(.tmp 2)]⟩
theorem c171_ok : compileF Tryz.prog [] 171 = some c171 := by kernel_rfl
def c172 : AFn := ⟨(sq [(ox 2 (.mov (.v (.int .u64 0))))] (.seq (.draw [(mv 3 0), (ox 4 (.nilchk (.t 3))), (ox 5 (ld 4)), (mv 6 0), (ox 7 (.nilchk (.t 6))), (ox 8 (ld 7)), (ox 9 (.ext (.shift true) [(.t 8), (.v (.int .u64 13))])), (ox 10 (b2 .xor 5 9)), (ox 11 (.nilchk (.t 3))), (on (.store none (.t 11) (.t 10)))] [0, 1, 3, 0, 8, 24, 56, 127, 255, 511]) (.seq (.draw [(mv 12 0), (ox 13 (.nilchk (.t 12))), (ox 14 (ld 13)), (mv 15 0), (ox 16 (.nilchk (.t 15))), (ox 17 (ld 16)), (ox 18 (.ext (.shift false) [(.t 17), (.v (.int .u64 7))])), (ox 19 (b2 .xor 14 18)), (ox 20 (.nilchk (.t 12))), (on (.store none (.t 20) (.t 19)))] [0, 1, 3, 0, 8, 24, 56, 127, 255, 511]) (.seq (.draw [(mv 21 0), (ox 22 (.nilchk (.t 21))), (ox 23 (ld 22)), (mv 24 0), (ox 25 (.nilchk (.t 24))), (ox 26 (ld 25)), (ox 27 (.ext (.shift true) [(.t 26), (.v (.int .u64 17))])), (ox 28 (b2 .xor 23 27)), (ox 29 (.nilchk (.t 21))), (on (.store none (.t 29) (.t 28)))] [0, 1, 3, 0, 8, 24, 56, 127, 255, 511]) (sq [(mv 30 0), (ox 31 (.nilchk (.t 30))), (ox 32 (ld 31)), (mv 2 32)] .ret))))), 33, [(.tmp 2)]⟩
theorem c172_ok : compileF Tryz.prog [] 172 = some c172 := by kernel_rfl
def c173 : AFn := ⟨(sq [(ox 8 (.mov (iv 0)))] (sq [(mv 9 0), (mv 10 1), (ox 11 (b1 .sub 10 1)), (mv 12 1), (mv 13 1), (ox 14 (b1 .add 13 1)), (mv 15 2), (mv 16 3), (ox 17 (fc 174 [(.t 9), (.t 11), (.t 12), (.t 14), (.t 15), (.t 16)])), (mv 8 17)] .ret)), 18, [(.tmp 8)]⟩
theorem c173_ok : compileF Tryz.prog [] 173 = some c173 := by kernel_rfl
def c174 : AFn := ⟨(sq [(ox 12 (.mov (iv 0)))] (sq [(mv 14 0), (mv 15 1), (mv 16 2), (mv 17 4), (mv 18 5), (ox 19 (fc 199 [(.t 14), (.t 15), (.t 16), (.t 17), (.t 18)])), (mv 13 19), (ox 20 (xt 13 0)), (ox 21 (xt 13 1)), (mv 1 20), (mv 2 21)] (sq [(mv 23 0), (mv 24 2), (mv 25 3), (mv 26 4), (mv 27 5), (ox 28 (fc 199 [(.t 23), (.t 24), (.t 25), (.t 26), (.t 27)])), (mv 22 28), (ox 29 (xt 22 0)), (ox 30 (xt 22 1)), (mv 2 29), (mv 3 30)] (sq [(mv 32 0), (mv 33 1), (mv 34 2), (mv 35 4), (mv 36 5), (ox 37 (fc 199 [(.t 32), (.t 33), (.t 34), (.t 35), (.t 36)])), (mv 31 37), (ox 38 (xt 31 0)), (ox 39 (xt 31 1)), (mv 1 38), (mv 2 39)] (sq [(mv 40 2), (mv 12 40)] .ret))))), 41, [(.tmp 12)]⟩
theorem c174_ok : compileF Tryz.prog [] 174 = some c174 := by kernel_rfl
def c199 : AFn := ⟨(sq [(ox 10 (.mov (iv 0))), (ox 11 (.mov (iv 0)))] (.seq (.seq (.draw [(mv 12 4), (mv 13 0), (mv 14 2), (ox 15 (.iaddr none 12 (.t 13) (.t 14))), (ox 16 (.load (some 12) (.t 15))), (mv 17 0), (mv 18 1), (ox 19 (.iaddr none 12 (.t 17) (.t 18))), (ox 20 (.load (some 12) (.t 19))), (ox 21 (.call (.t 12) [(.t 16), (.t 20)])), (ox 22 (b1 .lss 21 0))] [0, 0, 0, 6, 14, 0, 0, 96, 224, 511, 1023]) (cd 22 (sq [(mv 23 3), (ox 24 (.nilchk (.t 23))), (ox 25 (ld 24)), (ox 26 (b1 .add 25 1)), (ox 27 (.nilchk (.t 23))), (on (.store none (.t 27) (.t 26)))] (sq [(mv 28 2), (mv 29 1), (mv 10 28), (mv 11 29)] .ret)) .skip)) (sq [(mv 30 1), (mv 31 2), (mv 10 30), (mv 11 31)] .ret))), 32, [(.tmp 10), (.tmp 11)]⟩
theorem c199_ok : compileF Tryz.prog [] 199 = some c199 := by kernel_rfl
end Go.Ab
namespace Go.Ab
open Go Go.Proofs Go.Sort
theorem rows_get {d : Array Rcd} {j : Nat} (hj : j < d.size) (h : j < (rows d).length) : (rows d)[j]'h = rRow d[j]! := by
  have := rows_at hj
  rw [List.getElem?_eq_getElem h] at this
  exact Option.some.inj this
def swO (s : Nat) : AObj := .box 3 [.int .i64 s]
set_option maxRecDepth 20000 in
theorem order2_c (d : Array Rcd) (a b s : Nat) (h0 : okP d) (ha : a < d.size) (hb : b < d.size) (hs : s < 1000000) :
    ACalls Tryz.prog 199 [.own 0 d.size, .int .i64 a, .int .i64 b, .ptr 1 0, .fn (.func 60) [] []] [rgO d, swO s]
      (.tup [.int .i64 (order2 ltR d a b s).1, .int .i64 (order2 ltR d a b s).2.1]) [rgO d, swO (order2 ltR d a b s).2.2] := by
  have hle := rows_len d
  have ga := rows_get ha (by rw [hle]; exact ha)
  have gb := rows_get hb (by rw [hle]; exact hb)
  have pa := okP_at h0 ha
  have pb := okP_at h0 hb
  have cl := less_c _ _ pb pa
  have w : IntKind.i64.wrap ((s : Int) + 1) = s + 1 := w64 (by omega) (by omega)
  obtain ⟨n, hN⟩ : ∃ n, n = d.size := ⟨_, rfl⟩
  rw [← hN] at ha hb hle ⊢
  refine acalls_F c199_ok rfl ?_
  unfold c199 rgO swO order2
  simp +decide -dsimp -implicitDefEqProofs [go_sem, hle, ha, hb, ga, gb, rRow_len, rRow_take]
  refine callDE_pure cl (by simp +decide -dsimp -implicitDefEqProofs [go_sem, rRow_cl]) rfl ?_
  by_cases hlt : cmpP d[b]!.path d[a]!.path < 0
  · have e : ltR d[b]! d[a]! = true := by simpa [ltR] using hlt
    rw [if_pos e]
    simp +decide -dsimp -implicitDefEqProofs [go_sem, hlt, w]
    exact rows_cl _ _
  · have e : ¬ ltR d[b]! d[a]! = true := by simpa [ltR] using hlt
    rw [if_neg e]
    simp +decide -dsimp -implicitDefEqProofs [go_sem, hlt]
    exact rows_cl _ _
theorem order2_bd (d : Array Rcd) {a b s n : Nat} (ha : a < n) (hb : b < n) : (order2 ltR d a b s).1 < n ∧ (order2 ltR d a b s).2.1 < n ∧ (order2 ltR d a b s).2.2 ≤ s + 1 := by
  unfold order2
  split
  · exact ⟨hb, ha, Nat.le_refl _⟩
  · exact ⟨ha, hb, Nat.le_succ _⟩
set_option maxRecDepth 20000 in
theorem median_c (d : Array Rcd) (a b c s : Nat) (h0 : okP d) (ha : a < d.size) (hb : b < d.size) (hc : c < d.size) (hs : s < 900000) :
    ACalls Tryz.prog 174 [.own 0 d.size, .int .i64 a, .int .i64 b, .int .i64 c, .ptr 1 0, .fn (.func 60) [] []] [rgO d, swO s]
      (.int .i64 (median ltR d a b c s).1) [rgO d, swO (median ltR d a b c s).2] ∧ (median ltR d a b c s).1 < d.size ∧ (median ltR d a b c s).2 ≤ s + 3 := by
  obtain ⟨b1, b2, b3⟩ := order2_bd d (s := s) ha hb
  have c1 := order2_c d a b s h0 ha hb (by omega)
  unfold median
  generalize order2 ltR d a b s = r1 at c1 b1 b2 b3
  obtain ⟨x1, y1, s1⟩ := r1
  simp only at c1 b1 b2 b3
  obtain ⟨b4, b5, b6⟩ := order2_bd d (s := s1) b2 hc
  have c2 := order2_c d y1 c s1 h0 b2 hc (by omega)
  simp only
  generalize order2 ltR d y1 c s1 = r2 at c2 b4 b5 b6
  obtain ⟨x2, y2, s2⟩ := r2
  simp only at c2 b4 b5 b6
  obtain ⟨b7, b8, b9⟩ := order2_bd d (s := s2) b1 b4
  have c3 := order2_c d x1 x2 s2 h0 b1 b4 (by omega)
  simp only
  generalize order2 ltR d x1 x2 s2 = r3 at c3 b7 b8 b9
  obtain ⟨x3, y3, s3⟩ := r3
  simp only at c3 b7 b8 b9 ⊢
  refine ⟨?_, b8, by omega⟩
  have hrr := rows_ren
  refine acalls_F c174_ok rfl ?_
  unfold c174
  unfold rgO swO at *
  simp +decide -dsimp -implicitDefEqProofs [go_sem]
  refine callE_frame [0, 1] c1 rfl rfl (by simp) (by simp +decide -dsimp -implicitDefEqProofs [go_sem]) (by simp +decide -dsimp -implicitDefEqProofs [go_sem, hrr]) ?_
  simp +decide -dsimp -implicitDefEqProofs [go_sem, hrr]
  refine callE_frame [0, 1] c2 rfl rfl (by simp) (by simp +decide -dsimp -implicitDefEqProofs [go_sem]) (by simp +decide -dsimp -implicitDefEqProofs [go_sem, hrr]) ?_
  simp +decide -dsimp -implicitDefEqProofs [go_sem, hrr]
  refine callE_frame [0, 1] c3 rfl rfl (by simp) (by simp +decide -dsimp -implicitDefEqProofs [go_sem]) (by simp +decide -dsimp -implicitDefEqProofs [go_sem, hrr]) ?_
  simp +decide -dsimp -implicitDefEqProofs [go_sem, hrr]
  exact rows_cl _ _
set_option maxRecDepth 20000 in
theorem medAdj_c (d : Array Rcd) (a s : Nat) (h0 : okP d) (h1 : 1 ≤ a) (ha : a + 1 < d.size) (hs : s < 900000) (hn : d.size < 1000000) :
    ACalls Tryz.prog 173 [.own 0 d.size, .int .i64 a, .ptr 1 0, .fn (.func 60) [] []] [rgO d, swO s]
      (.int .i64 (medianAdjacent ltR d a s).1) [rgO d, swO (medianAdjacent ltR d a s).2] ∧ (medianAdjacent ltR d a s).1 < d.size ∧ (medianAdjacent ltR d a s).2 ≤ s + 3 := by
  obtain ⟨c1, b1, b2⟩ := median_c d (a - 1) a (a + 1) s h0 (by omega) (by omega) ha hs
  unfold medianAdjacent
  refine ⟨?_, b1, b2⟩
  generalize median ltR d (a - 1) a (a + 1) s = r at c1
  have hrr := rows_ren
  have w1 : IntKind.i64.wrap ((a : Int) - 1) = ((a - 1 : Nat) : Int) := by rw [w64 (by omega) (by omega)]; omega
  have w2 : IntKind.i64.wrap ((a : Int) + 1) = (a : Int) + 1 := w64 (by omega) (by omega)
  refine acalls_F c173_ok rfl ?_
  unfold c173
  unfold rgO swO at *
  simp +decide -dsimp -implicitDefEqProofs [go_sem, w1, w2]
  refine callE_frame [0, 1] c1 rfl rfl (by simp) (by simp +decide -dsimp -implicitDefEqProofs [go_sem]) (by simp +decide -dsimp -implicitDefEqProofs [go_sem, hrr]) ?_
  simp +decide -dsimp -implicitDefEqProofs [go_sem, hrr]
  exact rows_cl _ _
end Go.Ab
namespace Go.Ab
open Go Go.Proofs Go.Sort
theorem rows_set_len {d : Array Rcd} {x : Rcd} {i j : Nat} (h : j < ((rows d).set i (rRow x)).length) : (((rows d).set i (rRow x))[j]'h).length = 12 := by
  rw [List.getElem_set]
  split
  · rfl
  · have hj : j < d.size := by rw [List.length_set, rows_len] at h; exact h
    rw [rows_get hj]; rfl
theorem rows_set_drop {d : Array Rcd} {x : Rcd} {i j : Nat} (h : j < ((rows d).set i (rRow x)).length) : (((rows d).set i (rRow x))[j]'h).drop 12 = [] :=
  List.drop_of_length_le (Nat.le_of_eq (rows_set_len h))
set_option maxRecDepth 20000 in
set_option maxHeartbeats 2000000 in
theorem reverse_c (d0 : Array Rcd) (a b : Nat) (hn : d0.size ≤ 100000) (h0 : okP d0) (ha : 1 ≤ b) (hb : b ≤ d0.size) :
    ACalls Tryz.prog 133 [.own 0 d0.size, .int .i64 a, .int .i64 b, .fn (.func 60) [] []] [rgO d0] (.tup []) [rgO (reverseRange d0 a b)] ∧ okP (reverseRange d0 a b) := by
  have hok : ∀ (k i j : Nat) (d : Array Rcd), j - i ≤ k → okP d → j < d.size → okP (reverseLoop i j d) := by
    intro k
    induction k with
    | zero => intro i j d hk h hj; rw [reverseLoop, if_neg (by omega)]; exact h
    | succ k ih =>
      intro i j d hk h hj
      rw [reverseLoop]
      split
      · exact ih _ _ _ (by omega) (okP_swp h (by omega) hj) (by rw [swp_size]; omega)
      · exact h
  refine ⟨?_, hok _ _ _ _ (Nat.le_refl _) h0 (by omega)⟩
  unfold reverseRange
  obtain ⟨n, hN⟩ : ∃ n, n = d0.size := ⟨_, rfl⟩
  rw [← hN] at hn hb ⊢
  have wb : IntKind.i64.wrap ((b : Int) - 1) = ((b - 1 : Nat) : Int) := by rw [w64 (by omega) (by omega)]; omega
  refine acalls_F c133_ok rfl ?_
  unfold c133 rgO
  simp +decide -dsimp -implicitDefEqProofs [go_sem, wb]
  refine loop_of (S := Nat × Nat × Array Rcd) (fun s => ⟨tmps 34 [(0, .own 0 n), (8, .int .i64 s.1), (9, .int .i64 s.2.1)], [.reg 34 12 (rows s.2.2)]⟩) (fun s => s.2.1 - s.1)
    (fun s => s.2.1 < n ∧ s.2.2.size = n ∧ reverseLoop a (b - 1) d0 = reverseLoop s.1 s.2.1 s.2.2) (a, b - 1, d0) ⟨by show b - 1 < n; omega, hN.symm, rfl⟩ (cut_of (by simp) ?_) ?_
  · simp +decide -dsimp -implicitDefEqProofs [go_sem]
    exact rows_cl _ _
  rintro ⟨i, j, d⟩ ⟨hj, hd, hs⟩
  simp only at hj hd hs
  have hle : (rows d).length = n := by rw [rows_len, hd]
  by_cases h : i < j
  · have hi : i < n := by omega
    have gi := rows_get (d := d) (j := i) (by omega) (by omega)
    have gj := rows_get (d := d) (j := j) (by omega) (by omega)
    have hsw := rows_swp d i j
    have w1 : IntKind.i64.wrap ((i : Int) + 1) = i + 1 := w64 (by omega) (by omega)
    have w2 : IntKind.i64.wrap ((j : Int) - 1) = ((j - 1 : Nat) : Int) := by rw [w64 (by omega) (by omega)]; omega
    conv at hs => rhs; rw [reverseLoop, if_pos h]
    simp +decide -dsimp -implicitDefEqProofs [go_sem, h, hle, hi, hj, gi, gj, rRow_len, rRow_take, rRow_drop, rows_set_len, rows_set_drop, w1, w2]
    rw [hsw]
    refine next_of (i + 1, j - 1, swp d i j) ⟨by show j - 1 < n; omega, by show (swp d i j).size = n; rw [swp_size, hd], hs⟩ (by show j - 1 - (i + 1) < j - i; omega) (cut_of (by simp) ?_)
    simp +decide -dsimp -implicitDefEqProofs [go_sem]
    exact rows_cl _ _
  · conv at hs => rhs; rw [reverseLoop, if_neg h]
    rw [hs]
    simp +decide -dsimp -implicitDefEqProofs [go_sem, h]
    exact rows_cl _ _
set_option maxRecDepth 20000 in
set_option maxHeartbeats 4000000 in
theorem insertionG_c (d0 : Array Rcd) (a b : Nat) (hn : d0.size ≤ 100000) (h0 : okP d0) (hab : a ≤ b) (hb : b ≤ d0.size) :
    ACalls Tryz.prog 129 [.own 0 d0.size, .int .i64 a, .int .i64 b, .fn (.func 60) [] []] [rgO d0] (.tup []) [rgO (insertionSort ltR d0 a b)] := by
  obtain ⟨n, hN⟩ : ∃ n, n = d0.size := ⟨_, rfl⟩
  rw [← hN] at hn hb ⊢
  have wa : IntKind.i64.wrap ((a : Int) + 1) = ((a + 1 : Nat) : Int) := by rw [w64 (by omega) (by omega)]; omega
  refine acalls_F c129_ok rfl ?_
  unfold c129 rgO
  simp +decide -dsimp -implicitDefEqProofs [go_sem, wa]
  refine loop_of (S := Nat × Array Rcd) (fun s => ⟨tmps 53 [(0, .own 0 n), (1, .int .i64 a), (2, .int .i64 b), (3, .fn (.func 60) [] []), (8, .int .i64 s.1)], [.reg 34 12 (rows s.2)]⟩) (fun s => b - s.1)
    (fun s => a + 1 ≤ s.1 ∧ s.2.size = n ∧ okP s.2 ∧ insertionSort ltR d0 a b = insOuter ltR a b s.1 s.2) (a + 1, d0) ⟨Nat.le_refl _, hN.symm, h0, rfl⟩ (cut_of (by simp) ?_) ?_
  · simp +decide -dsimp -implicitDefEqProofs [go_sem]
    exact rows_cl _ _
  rintro ⟨i, d⟩ ⟨hi, hd, hok, hs⟩
  simp only at hi hd hok hs
  by_cases h : i < b
  · conv at hs => rhs; rw [insOuter, if_pos h]
    have wi : IntKind.i64.wrap ((i : Int) + 1) = i + 1 := w64 (by omega) (by omega)
    simp +decide -dsimp -implicitDefEqProofs [go_sem, h]
    refine loop_of (S := Nat × Array Rcd) (fun s => ⟨tmps 53 [(0, .own 0 n), (1, .int .i64 a), (2, .int .i64 b), (3, .fn (.func 60) [] []), (8, .int .i64 i), (9, .int .i64 s.1)], [.reg 34 12 (rows s.2)]⟩) (fun s => s.1)
      (fun s => s.1 ≤ i ∧ s.2.size = n ∧ okP s.2 ∧ insInner ltR a i d = insInner ltR a s.1 s.2) (i, d) ⟨Nat.le_refl _, hd, hok, rfl⟩ (cut_of (by simp) ?_) ?_
    · simp +decide -dsimp -implicitDefEqProofs [go_sem]
      exact rows_cl _ _
    rintro ⟨j, e⟩ ⟨hj, he, hoe, hse⟩
    simp only at hj he hoe hse
    by_cases hja : a < j
    · obtain ⟨m, rfl⟩ : ∃ m, j = m + 1 := ⟨j - 1, by omega⟩
      have hle : (rows e).length = n := by rw [rows_len, he]
      have hm1 : m + 1 < n := by omega
      have hm : m < n := by omega
      have a1 := rows_get (d := e) (j := m + 1) (by omega) (by omega)
      have a0 := rows_get (d := e) (j := m) (by omega) (by omega)
      have hz : (0 : Int) ≤ (m : Int) + 1 := by omega
      have hja' : (a : Int) < (m : Int) + 1 := by omega
      have p1 := okP_at hoe (j := m + 1) (by omega)
      have p0 := okP_at hoe (j := m) (by omega)
      have cl := less_c _ _ p1 p0
      have w : IntKind.i64.wrap (m : Int) = (m : Int) := w64 (by omega) (by omega)
      have hsw := rows_swp e (m + 1) m
      have hso := okP_swp hoe (i := m + 1) (j := m) (by omega) (by omega)
      have hgt : (decide (m + 1 > a)) = true := decide_eq_true hja
      conv at hse => rhs; rw [insInner, hgt, Bool.true_and]
      simp +decide -dsimp -implicitDefEqProofs [go_sem, w, hz, hle, hm, hm1, a0, a1, rRow_len, rRow_take, hja']
      refine callDE_pure cl (by simp +decide -dsimp -implicitDefEqProofs [go_sem, rRow_cl]) rfl ?_
      by_cases hlt : cmpP e[m + 1]!.path e[m]!.path < 0
      · conv at hse => rhs; rw [if_pos (by simpa [ltR] using hlt)]
        simp +decide -dsimp -implicitDefEqProofs [go_sem, w, hz, hle, hm, hm1, a0, a1, rRow_len, rRow_take, rRow_drop, hlt]
        rw [hsw]
        refine next_of (m, swp e (m + 1) m) ⟨by show m ≤ i; omega, by show (swp e (m + 1) m).size = n; rw [swp_size, he], hso, hse⟩ (Nat.lt_succ_self m) (cut_of (by simp) ?_)
        simp +decide -dsimp -implicitDefEqProofs [go_sem]
        exact rows_cl _ _
      · conv at hse => rhs; rw [if_neg (by simpa [ltR] using hlt)]
        simp +decide -dsimp -implicitDefEqProofs [go_sem, hlt, wi]
        rw [hse] at hs
        refine next_of (i + 1, e) ⟨by show a + 1 ≤ i + 1; omega, he, hoe, hs⟩ (by show b - (i + 1) < b - i; omega) (cut_of (by simp) ?_)
        simp +decide -dsimp -implicitDefEqProofs [go_sem]
        exact rows_cl _ _
    · have hstop : insInner ltR a j e = e := by
        cases j with
        | zero => rfl
        | succ m =>
          have hgt : (decide (m + 1 > a)) = false := decide_eq_false hja
          rw [insInner, hgt, Bool.false_and]; rfl
      rw [hstop] at hse
      rw [hse] at hs
      simp +decide -dsimp -implicitDefEqProofs [go_sem, wi, hja]
      refine next_of (i + 1, e) ⟨by show a + 1 ≤ i + 1; omega, he, hoe, hs⟩ (by show b - (i + 1) < b - i; omega) (cut_of (by simp) ?_)
      simp +decide -dsimp -implicitDefEqProofs [go_sem]
      exact rows_cl _ _
  · conv at hs => rhs; rw [insOuter, if_neg h]
    rw [hs]
    simp +decide -dsimp -implicitDefEqProofs [go_sem, h]
    exact rows_cl _ _
end Go.Ab
namespace Go.Ab
open Go Go.Proofs Go.Sort
def hintN : Hint → Nat
  | .unknown => 0
  | .increasing => 1
  | .decreasing => 2
set_option maxRecDepth 20000 in
set_option maxHeartbeats 4000000 in
theorem pivot_c (d : Array Rcd) (a b : Nat) (hn : d.size ≤ 100000) (h0 : okP d) (hab : a < b) (hb : b ≤ d.size) :
    ACalls Tryz.prog 132 [.own 0 d.size, .int .i64 a, .int .i64 b, .fn (.func 60) [] []] [rgO d]
      (.tup [.int .i64 (choosePivot ltR d a b).1, .int .i64 (hintN (choosePivot ltR d a b).2)]) [rgO d] ∧ (choosePivot ltR d a b).1 < d.size := by
  have wl : IntKind.i64.wrap ((b : Int) - (a : Int)) = ((b - a : Nat) : Int) := by rw [w64 (by omega) (by omega)]; omega
  unfold choosePivot
  simp only
  obtain ⟨l, hl⟩ : ∃ l, l = b - a := ⟨_, rfl⟩
  rw [← hl] at wl ⊢
  have wq : IntKind.i64.wrap ((l : Int) / 4) = ((l / 4 : Nat) : Int) := by
    rw [show (l : Int) / 4 = ((l / 4 : Nat) : Int) from rfl]; exact w64 (by omega) (by omega)
  obtain ⟨q, hq⟩ : ∃ q, q = l / 4 := ⟨_, rfl⟩
  have hq4 : q * 4 ≤ l := by omega
  have hq1 : l ≤ q * 4 + 3 := by omega
  rw [← hq] at wq ⊢
  have w1 : IntKind.i64.wrap (q : Int) = (q : Int) := w64 (by omega) (by omega)
  have w2 : IntKind.i64.wrap ((q : Int) * 2) = (q : Int) * 2 := w64 (by omega) (by omega)
  have w3 : IntKind.i64.wrap ((q : Int) * 3) = (q : Int) * 3 := w64 (by omega) (by omega)
  have x1 : IntKind.i64.wrap ((a : Int) + q) = (a : Int) + q := w64 (by omega) (by omega)
  have x2 : IntKind.i64.wrap ((a : Int) + (q : Int) * 2) = (a : Int) + (q : Int) * 2 := w64 (by omega) (by omega)
  have x3 : IntKind.i64.wrap ((a : Int) + (q : Int) * 3) = (a : Int) + (q : Int) * 3 := w64 (by omega) (by omega)
  have hrr := rows_ren
  by_cases h8 : l ≥ 8
  · have y8 : (8 : Int) ≤ (l : Int) := by omega
    simp only [if_pos h8]
    have e1 : ((a + q * 1 : Nat) : Int) = (a : Int) + q := by omega
    by_cases h50 : l ≥ 50
    · have y50 : (50 : Int) ≤ (l : Int) := by omega
      simp only [if_pos h50]
      obtain ⟨c1, b1, s1⟩ := medAdj_c d (a + q * 1) 0 h0 (by omega) (by omega) (by omega) (by omega)
      generalize medianAdjacent ltR d (a + q * 1) 0 = r1 at c1 b1 s1 ⊢
      obtain ⟨c2, b2, s2⟩ := medAdj_c d (a + q * 2) r1.2 h0 (by omega) (by omega) (by omega) (by omega)
      generalize medianAdjacent ltR d (a + q * 2) r1.2 = r2 at c2 b2 s2 ⊢
      obtain ⟨c3, b3, s3⟩ := medAdj_c d (a + q * 3) r2.2 h0 (by omega) (by omega) (by omega) (by omega)
      generalize medianAdjacent ltR d (a + q * 3) r2.2 = r3 at c3 b3 s3 ⊢
      obtain ⟨c4, b4, s4⟩ := median_c d r1.1 r2.1 r3.1 r3.2 h0 b1 b2 b3 (by omega)
      generalize median ltR d r1.1 r2.1 r3.1 r3.2 = r4 at c4 b4 s4 ⊢
      obtain ⟨z1, t1⟩ := r1
      obtain ⟨z2, t2⟩ := r2
      obtain ⟨z3, t3⟩ := r3
      obtain ⟨z4, t4⟩ := r4
      simp only at c1 c2 c3 c4 b1 b2 b3 b4 s1 s2 s3 s4 ⊢
      refine ⟨?_, b4⟩
      refine acalls_F c132_ok rfl ?_
      unfold c132
      unfold rgO swO at *
      rw [e1] at c1
      simp +decide -dsimp -implicitDefEqProofs [go_sem] at c1 c2 c3 c4
      simp +decide -dsimp -implicitDefEqProofs [go_sem, wl, wq, w1, w2, w3, x1, x2, x3, y8, y50]
      refine callE_frame [0, 1] c1 rfl rfl (by simp) (by simp +decide -dsimp -implicitDefEqProofs [go_sem]) (by simp +decide -dsimp -implicitDefEqProofs [go_sem, hrr]) ?_
      simp +decide -dsimp -implicitDefEqProofs [go_sem, hrr]
      refine callE_frame [0, 1] c2 rfl rfl (by simp) (by simp +decide -dsimp -implicitDefEqProofs [go_sem]) (by simp +decide -dsimp -implicitDefEqProofs [go_sem, hrr]) ?_
      simp +decide -dsimp -implicitDefEqProofs [go_sem, hrr]
      refine callE_frame [0, 1] c3 rfl rfl (by simp) (by simp +decide -dsimp -implicitDefEqProofs [go_sem]) (by simp +decide -dsimp -implicitDefEqProofs [go_sem, hrr]) ?_
      simp +decide -dsimp -implicitDefEqProofs [go_sem, hrr]
      refine callE_frame [0, 1] c4 rfl rfl (by simp) (by simp +decide -dsimp -implicitDefEqProofs [go_sem]) (by simp +decide -dsimp -implicitDefEqProofs [go_sem, hrr]) ?_
      by_cases t0 : t4 = 0
      · subst t0
        simp +decide -dsimp -implicitDefEqProofs [go_sem, hrr, hintN]
        exact rows_cl _ _
      · have t0' : ¬ (t4 : Int) = 0 := by omega
        by_cases t12 : t4 = 12
        · subst t12
          simp +decide -dsimp -implicitDefEqProofs [go_sem, hrr, hintN]
          exact rows_cl _ _
        · have t12' : ¬ (t4 : Int) = 12 := by omega
          simp +decide -dsimp -implicitDefEqProofs [go_sem, hrr, hintN, t0, t12, t12']
          exact rows_cl _ _
    · have y50 : ¬ (50 : Int) ≤ (l : Int) := by omega
      simp only [if_neg h50]
      obtain ⟨c4, b4, s4⟩ := median_c d (a + q * 1) (a + q * 2) (a + q * 3) 0 h0 (by omega) (by omega) (by omega) (by omega)
      generalize median ltR d (a + q * 1) (a + q * 2) (a + q * 3) 0 = r4 at c4 b4 s4 ⊢
      obtain ⟨z4, t4⟩ := r4
      simp only at c4 b4 s4 ⊢
      refine ⟨?_, b4⟩
      refine acalls_F c132_ok rfl ?_
      unfold c132
      unfold rgO swO at *
      rw [e1] at c4
      simp +decide -dsimp -implicitDefEqProofs [go_sem] at c4
      simp +decide -dsimp -implicitDefEqProofs [go_sem, wl, wq, w1, w2, w3, x1, x2, x3, y8, y50]
      refine callE_frame [0, 1] c4 rfl rfl (by simp) (by simp +decide -dsimp -implicitDefEqProofs [go_sem]) (by simp +decide -dsimp -implicitDefEqProofs [go_sem, hrr]) ?_
      by_cases t0 : t4 = 0
      · subst t0
        simp +decide -dsimp -implicitDefEqProofs [go_sem, hrr, hintN]
        exact rows_cl _ _
      · have t0' : ¬ (t4 : Int) = 0 := by omega
        have t12 : ¬ t4 = 12 := by omega
        have t12' : ¬ (t4 : Int) = 12 := by omega
        simp +decide -dsimp -implicitDefEqProofs [go_sem, hrr, hintN, t0, t12, t12']
        exact rows_cl _ _
  · simp only [if_neg h8]
    have y8 : ¬ (8 : Int) ≤ (l : Int) := by omega
    refine ⟨?_, by omega⟩
    refine acalls_F c132_ok rfl ?_
    unfold c132
    unfold rgO
    simp +decide -dsimp -implicitDefEqProofs [go_sem, wl, wq, w1, w2, w3, x1, x2, x3, y8, hintN]
    exact rows_cl _ _
end Go.Ab
namespace Go.Ab
open Go Go.Proofs Go.Sort
section
variable {α : Type} [Inhabited α]
theorem scanDown_goR (p : α → Bool) (d : Array α) (i j : Nat) (h : i ≤ j) (h0 : 0 < j) (hp : p d[j]! = true) : scanDown p d i j = scanDown p d i (j - 1) := by
  obtain ⟨k, rfl⟩ : ∃ k, j = k + 1 := ⟨j - 1, by omega⟩
  rw [scanDown, if_pos (by simp [h, hp])]
  rfl
theorem scanDown_endR (p : α → Bool) (d : Array α) (i j : Nat) (h : ¬ i ≤ j ∨ p d[j]! = false) : scanDown p d i j = j := by
  cases j with
  | zero => rfl
  | succ k => rw [scanDown, if_neg (by rcases h with h | h <;> simp [h])]
theorem scans_ltR {lt : α → α → Bool} {a i j i2 j2 : Nat} {d : Array α} (hi : i2 = scanUp (fun x => lt x d[a]!) d j i) (hj : j2 = scanDown (fun x => !lt x d[a]!) d i2 j) (h0 : 0 < i) (h : i2 ≤ j2) : i2 < j2 := by
  have bi := scanUp_spec (fun x => lt x d[a]!) d j _ i rfl
  rw [← hi] at bi
  have bj := scanDown_spec (fun x => !lt x d[a]!) d i2 j
  rw [← hj] at bj
  rcases Nat.lt_or_ge i2 j2 with h' | h'
  · exact h'
  · have e : j2 = i2 := by omega
    have f1 := bi.2.2.2 (by have := bj.1; omega)
    have f2 := bj.2.2.2 h (by have := bi.1; omega)
    rw [e] at f2
    simp only [f1] at f2
    cases f2
end
set_option maxRecDepth 20000 in
set_option maxHeartbeats 8000000 in
theorem partition_c (d0 : Array Rcd) (a b p : Nat) (hn : d0.size ≤ 100000) (h0 : okP d0) (hap : a ≤ p) (hpb : p < b) (hb : b ≤ d0.size) :
    ACalls Tryz.prog 136 [.own 0 d0.size, .int .i64 a, .int .i64 b, .int .i64 p, .fn (.func 60) [] []] [rgO d0]
      (.tup [.int .i64 (Go.Sort.partition ltR d0 a b p).1, .bool (Go.Sort.partition ltR d0 a b p).2.1]) [rgO (Go.Sort.partition ltR d0 a b p).2.2] := by
  obtain ⟨n, hN⟩ : ∃ n, n = d0.size := ⟨_, rfl⟩
  rw [← hN] at hn hb ⊢
  have hle0 : (rows d0).length = n := by rw [rows_len, hN]
  have han : a < n := by omega
  have hpn : p < n := by omega
  obtain ⟨d, hdd⟩ : ∃ d, d = swp d0 a p := ⟨_, rfl⟩
  have hd : d.size = n := by rw [hdd, swp_size, hN]
  have hok : okP d := by rw [hdd]; exact okP_swp h0 (by omega) (by omega)
  have hle : (rows d).length = n := by rw [rows_len, hd]
  have ga := rows_get (d := d) (j := a) (by omega) (by omega)
  obtain ⟨jb, hjb⟩ : ∃ x, x = b - 1 := ⟨_, rfl⟩
  obtain ⟨ia, hia⟩ : ∃ x, x = a + 1 := ⟨_, rfl⟩
  obtain ⟨i2, hi2⟩ : ∃ x, x = scanUp (fun x => ltR x d[a]!) d jb ia := ⟨_, rfl⟩
  obtain ⟨j2, hj2⟩ : ∃ x, x = scanDown (fun x => !ltR x d[a]!) d i2 jb := ⟨_, rfl⟩
  have bi := scanUp_spec (fun x => ltR x d[a]!) d jb _ ia rfl
  rw [← hi2] at bi
  have bj := scanDown_spec (fun x => !ltR x d[a]!) d i2 jb
  rw [← hj2] at bj
  have bi1 := bi.1
  have bi2 := bi.2.1 (by omega)
  have bj1 := bj.1
  have bj2 := bj.2.1 (by omega)
  clear bi bj
  have hpart : Go.Sort.partition ltR d0 a b p = if i2 > j2 then (j2, true, swp d j2 a) else ((partLoop ltR a (i2 + 1) (j2 - 1) (swp d i2 j2)).1, false, swp (partLoop ltR a (i2 + 1) (j2 - 1) (swp d i2 j2)).2 (partLoop ltR a (i2 + 1) (j2 - 1) (swp d i2 j2)).1 a) := by
    subst hj2 hi2 hdd hjb hia
    rfl
  rw [hpart]
  clear hpart
  have wa : IntKind.i64.wrap ((a : Int) + 1) = (ia : Int) := by rw [w64 (by omega) (by omega)]; omega
  have wb : IntKind.i64.wrap ((b : Int) - 1) = (jb : Int) := by rw [w64 (by omega) (by omega)]; omega
  refine acalls_A c136_ok rfl ?_
  unfold c136 rgO
  refine awp_cut ⟨tmps 178 [(0, .own 0 n), (1, .int .i64 a), (2, .int .i64 b), (3, .int .i64 p), (4, .fn (.func 60) [] []), (10, .int .i64 0), (11, .bool false)], [.reg 34 12 (rows d0)]⟩ (awp_of ?_) ?_
  · simp +decide -dsimp -implicitDefEqProofs [go_sem]
    refine cutE_of (by simp) ?_
    simp +decide -dsimp -implicitDefEqProofs [go_sem]
    exact rows_cl _ _
  refine awp_cut ⟨tmps 178 [(0, .own 0 n), (1, .int .i64 a), (2, .int .i64 b), (3, .int .i64 p), (4, .fn (.func 60) [] []), (10, .int .i64 0), (11, .bool false)], [.reg 34 12 (rows d)]⟩ (awp_of ?_) ?_
  · have gx := rows_get (d := d0) (j := a) (by omega) (by omega)
    have gy := rows_get (d := d0) (j := p) (by omega) (by omega)
    have hsw := rows_swp d0 a p
    simp +decide -dsimp -implicitDefEqProofs [go_sem, hle0, han, hpn, gx, gy, rRow_len, rRow_take, rRow_drop, rows_set_len, rows_set_drop]
    rw [hsw, ← hdd]
    refine cutE_of (by simp) ?_
    simp +decide -dsimp -implicitDefEqProofs [go_sem]
    exact rows_cl _ _
  refine awp_cut ⟨tmps 178 [(0, .own 0 n), (1, .int .i64 a), (2, .int .i64 b), (3, .int .i64 p), (4, .fn (.func 60) [] []), (10, .int .i64 0), (11, .bool false), (12, .int .i64 ia), (13, .int .i64 jb)], [.reg 34 12 (rows d)]⟩ (awp_of ?_) ?_
  · simp +decide -dsimp -implicitDefEqProofs [go_sem, wa, wb]
    refine cutE_of (by simp) ?_
    simp +decide -dsimp -implicitDefEqProofs [go_sem]
    exact rows_cl _ _
  refine awp_cut ⟨tmps 178 [(0, .own 0 n), (1, .int .i64 a), (2, .int .i64 b), (3, .int .i64 p), (4, .fn (.func 60) [] []), (10, .int .i64 0), (11, .bool false), (12, .int .i64 i2), (13, .int .i64 jb)], [.reg 34 12 (rows d)]⟩ (awp_of ?_) ?_
  ·
    simp +decide -dsimp -implicitDefEqProofs [go_sem]
    refine loop_of (S := Nat) (fun s => ⟨tmps 178 [(0, .own 0 n), (1, .int .i64 a), (2, .int .i64 b), (3, .int .i64 p), (4, .fn (.func 60) [] []), (10, .int .i64 0), (11, .bool false), (12, .int .i64 (s : Nat)), (13, .int .i64 jb)], [.reg 34 12 (rows d)]⟩) (fun s => jb + 1 - s) (fun s => a + 1 ≤ s ∧ s ≤ jb + 1 ∧ i2 = scanUp (fun x => ltR x d[a]!) d jb s) (ia) ⟨by omega, by omega, hi2⟩ (cut_of (by simp) ?_) ?_
    · simp +decide -dsimp -implicitDefEqProofs [go_sem]
      exact rows_cl _ _
    rintro s ⟨s1, s2, s3⟩
    by_cases h : s ≤ jb
    · have gi := rows_get (d := d) (j := s) (by omega) (by omega)
      have hsn : s < n := by omega
      have cl := less_c _ _ (okP_at hok (j := s) (by omega)) (okP_at hok (j := a) (by omega))
      have w1 : IntKind.i64.wrap ((s : Int) + 1) = s + 1 := w64 (by omega) (by omega)
      simp +decide -dsimp -implicitDefEqProofs [go_sem, h, hle, hsn, han, gi, ga, rRow_len, rRow_take]
      refine callDE_pure cl (by simp +decide -dsimp -implicitDefEqProofs [go_sem, rRow_cl]) rfl ?_
      by_cases hlt : cmpP d[s]!.path d[a]!.path < 0
      · conv at s3 => rhs; rw [scanUp, if_pos (by simpa [ltR, hlt] using h)]
        simp +decide -dsimp -implicitDefEqProofs [go_sem, hlt, w1]
        refine next_of (s + 1) ⟨by omega, by omega, s3⟩ (by omega) (cut_of (by simp) ?_)
        simp +decide -dsimp -implicitDefEqProofs [go_sem]
        exact rows_cl _ _
      · conv at s3 => rhs; rw [scanUp, if_neg (by simp [ltR, hlt])]
        subst s3
        simp +decide -dsimp -implicitDefEqProofs [go_sem, hlt]
        refine cutE_of (by simp) ?_
        simp +decide -dsimp -implicitDefEqProofs [go_sem]
        exact rows_cl _ _
    · conv at s3 => rhs; rw [scanUp, if_neg (by simp [h])]
      subst s3
      simp +decide -dsimp -implicitDefEqProofs [go_sem, h]
      refine cutE_of (by simp) ?_
      simp +decide -dsimp -implicitDefEqProofs [go_sem]
      exact rows_cl _ _
  refine awp_cut ⟨tmps 178 [(0, .own 0 n), (1, .int .i64 a), (2, .int .i64 b), (3, .int .i64 p), (4, .fn (.func 60) [] []), (10, .int .i64 0), (11, .bool false), (12, .int .i64 i2), (13, .int .i64 j2)], [.reg 34 12 (rows d)]⟩ (awp_of ?_) ?_
  ·
    simp +decide -dsimp -implicitDefEqProofs [go_sem]
    refine loop_of (S := Nat) (fun s => ⟨tmps 178 [(0, .own 0 n), (1, .int .i64 a), (2, .int .i64 b), (3, .int .i64 p), (4, .fn (.func 60) [] []), (10, .int .i64 0), (11, .bool false), (12, .int .i64 i2), (13, .int .i64 (s : Nat))], [.reg 34 12 (rows d)]⟩) (fun s => s) (fun s => s ≤ jb ∧ i2 ≤ s + 1 ∧ j2 = scanDown (fun x => !ltR x d[a]!) d i2 s) (jb) ⟨by omega, by omega, hj2⟩ (cut_of (by simp) ?_) ?_
    · simp +decide -dsimp -implicitDefEqProofs [go_sem]
      exact rows_cl _ _
    rintro s ⟨s1, s2, s3⟩
    by_cases h : i2 ≤ s
    · have gi := rows_get (d := d) (j := s) (by omega) (by omega)
      have hsn : s < n := by omega
      have cl := less_c _ _ (okP_at hok (j := s) (by omega)) (okP_at hok (j := a) (by omega))
      have w1 : IntKind.i64.wrap ((s : Int) - 1) = ((s - 1 : Nat) : Int) := by rw [w64 (by omega) (by omega)]; omega
      simp +decide -dsimp -implicitDefEqProofs [go_sem, h, hle, hsn, han, gi, ga, rRow_len, rRow_take]
      refine callDE_pure cl (by simp +decide -dsimp -implicitDefEqProofs [go_sem, rRow_cl]) rfl ?_
      by_cases hlt : cmpP d[s]!.path d[a]!.path < 0
      · rw [scanDown_endR _ _ _ _ (.inr (by simp [ltR, hlt]))] at s3
        subst s3
        simp +decide -dsimp -implicitDefEqProofs [go_sem, hlt]
        refine cutE_of (by simp) ?_
        simp +decide -dsimp -implicitDefEqProofs [go_sem]
        exact rows_cl _ _
      · rw [scanDown_goR _ _ _ _ h (by omega) (by simp [ltR, hlt])] at s3
        simp +decide -dsimp -implicitDefEqProofs [go_sem, hlt, w1]
        refine next_of (s - 1) ⟨by omega, by omega, s3⟩ (by omega) (cut_of (by simp) ?_)
        simp +decide -dsimp -implicitDefEqProofs [go_sem]
        exact rows_cl _ _
    · rw [scanDown_endR _ _ _ _ (.inl h)] at s3
      subst s3
      simp +decide -dsimp -implicitDefEqProofs [go_sem, h]
      refine cutE_of (by simp) ?_
      simp +decide -dsimp -implicitDefEqProofs [go_sem]
      exact rows_cl _ _
  by_cases hij : i2 > j2
  · rw [if_pos hij]
    have hij2 : (j2 : Int) < (i2 : Int) := by omega
    have hjn : j2 < n := by omega
    have gx := rows_get (d := d) (j := j2) (by omega) (by omega)
    have hsw := rows_swp d j2 a
    refine awp_of ?_
    simp +decide -dsimp -implicitDefEqProofs [go_sem, hij2, hle, han, hjn, gx, ga, rRow_len, rRow_take, rRow_drop, rows_set_len, rows_set_drop]
    rw [hsw]
    exact ⟨rfl, rows_cl _ _⟩
  rw [if_neg hij]
  have hij2 : ¬ (j2 : Int) < (i2 : Int) := by omega
  obtain ⟨e, hee⟩ : ∃ e, e = swp d i2 j2 := ⟨_, rfl⟩
  rw [← hee]
  have he : e.size = n := by rw [hee, swp_size, hd]
  have hoe : okP e := by rw [hee]; exact okP_swp hok (by omega) (by omega)
  refine awp_cut ⟨tmps 178 [(0, .own 0 n), (1, .int .i64 a), (2, .int .i64 b), (3, .int .i64 p), (4, .fn (.func 60) [] []), (10, .int .i64 0), (11, .bool false), (12, .int .i64 i2), (13, .int .i64 j2)], [.reg 34 12 (rows d)]⟩ (awp_of ?_) ?_
  · simp +decide -dsimp -implicitDefEqProofs [go_sem, hij2]
    refine cutE_of (by simp) ?_
    simp +decide -dsimp -implicitDefEqProofs [go_sem]
    exact rows_cl _ _
  have hin : i2 < n := by omega
  have hjn : j2 < n := by omega
  refine awp_cut ⟨tmps 178 [(0, .own 0 n), (1, .int .i64 a), (2, .int .i64 b), (3, .int .i64 p), (4, .fn (.func 60) [] []), (10, .int .i64 0), (11, .bool false), (12, .int .i64 i2), (13, .int .i64 j2)], [.reg 34 12 (rows e)]⟩ (awp_of ?_) ?_
  · have gx := rows_get (d := d) (j := i2) (by omega) (by omega)
    have gy := rows_get (d := d) (j := j2) (by omega) (by omega)
    have hsw := rows_swp d i2 j2
    simp +decide -dsimp -implicitDefEqProofs [go_sem, hle, hin, hjn, gx, gy, rRow_len, rRow_take, rRow_drop, rows_set_len, rows_set_drop]
    rw [hsw, ← hee]
    refine cutE_of (by simp) ?_
    simp +decide -dsimp -implicitDefEqProofs [go_sem]
    exact rows_cl _ _
  have hlt12 : i2 < j2 := scans_ltR hi2 hj2 (by omega) (by omega)
  obtain ⟨i3, hi3⟩ : ∃ x, x = i2 + 1 := ⟨_, rfl⟩
  obtain ⟨j3, hj3⟩ : ∃ x, x = j2 - 1 := ⟨_, rfl⟩
  have wi : IntKind.i64.wrap ((i2 : Int) + 1) = (i3 : Int) := by rw [w64 (by omega) (by omega)]; omega
  have wj : IntKind.i64.wrap ((j2 : Int) - 1) = (j3 : Int) := by rw [w64 (by omega) (by omega)]; omega
  refine awp_cut ⟨tmps 178 [(0, .own 0 n), (1, .int .i64 a), (2, .int .i64 b), (3, .int .i64 p), (4, .fn (.func 60) [] []), (10, .int .i64 0), (11, .bool false), (12, .int .i64 i3), (13, .int .i64 j2)], [.reg 34 12 (rows e)]⟩ (awp_of ?_) ?_
  · simp +decide -dsimp -implicitDefEqProofs [go_sem, wi]
    refine cutE_of (by simp) ?_
    simp +decide -dsimp -implicitDefEqProofs [go_sem]
    exact rows_cl _ _
  refine awp_cut ⟨tmps 178 [(0, .own 0 n), (1, .int .i64 a), (2, .int .i64 b), (3, .int .i64 p), (4, .fn (.func 60) [] []), (10, .int .i64 0), (11, .bool false), (12, .int .i64 i3), (13, .int .i64 j3)], [.reg 34 12 (rows e)]⟩ (awp_of ?_) ?_
  · simp +decide -dsimp -implicitDefEqProofs [go_sem, wj]
    refine cutE_of (by simp) ?_
    simp +decide -dsimp -implicitDefEqProofs [go_sem]
    exact rows_cl _ _
  clear hd hok hle ga hi2 hj2 hdd hee
  obtain ⟨r, hr⟩ : ∃ r, r = partLoop ltR a i3 j3 e := ⟨_, rfl⟩
  rw [← hi3, ← hj3, ← hr]
  refine awp_cutX (S := Nat) (fun s => ⟨tmps 178 [(0, .own 0 n), (1, .int .i64 a), (2, .int .i64 b), (3, .int .i64 p), (4, .fn (.func 60) [] []), (10, .int .i64 0), (11, .bool false), (12, .int .i64 (s : Nat)), (13, .int .i64 r.1)], [.reg 34 12 (rows r.2)]⟩) (fun _ => r.1 < b ∧ r.2.size = n ∧ okP r.2) (awp_block (awp_of ?_)) ?_
  · simp +decide -dsimp -implicitDefEqProofs [go_sem]
    refine loop_ofA (S := Nat × Nat × Array Rcd) (fun s => ⟨tmps 178 [(0, .own 0 n), (1, .int .i64 a), (2, .int .i64 b), (3, .int .i64 p), (4, .fn (.func 60) [] []), (10, .int .i64 0), (11, .bool false), (12, .int .i64 s.1), (13, .int .i64 s.2.1)], [.reg 34 12 (rows s.2.2)]⟩) (fun s => s.2.1 + 1 - s.1) (fun s => a + 1 ≤ s.1 ∧ s.1 ≤ s.2.1 + 1 ∧ s.2.1 < b ∧ s.2.2.size = n ∧ okP s.2.2 ∧ r = partLoop ltR a s.1 s.2.1 s.2.2) (i3, j3, e) ⟨by show a + 1 ≤ i3; omega, by show i3 ≤ j3 + 1; omega, by show j3 < b; omega, he, hoe, hr⟩ (cut_of (by simp) ?_) ?_
    · simp +decide -dsimp -implicitDefEqProofs [go_sem]
      exact rows_cl _ _
    rintro ⟨i, j, f⟩ ⟨q1, q2, q3, q4, q5, q6⟩
    simp only at q1 q2 q3 q4 q5 q6
    have hle : (rows f).length = n := by rw [rows_len, q4]
    have ga := rows_get (d := f) (j := a) (by omega) (by omega)
    obtain ⟨i5, hi5⟩ : ∃ x, x = scanUp (fun x => ltR x f[a]!) f j i := ⟨_, rfl⟩
    obtain ⟨j5, hj5⟩ : ∃ x, x = scanDown (fun x => !ltR x f[a]!) f i5 j := ⟨_, rfl⟩
    have bi := scanUp_spec (fun x => ltR x f[a]!) f j _ i rfl
    rw [← hi5] at bi
    have bj := scanDown_spec (fun x => !ltR x f[a]!) f i5 j
    rw [← hj5] at bj
    have bi1 := bi.1
    have bi2 := bi.2.1 (by omega)
    have bj1 := bj.1
    have bj2 := bj.2.1 (by omega)
    clear bi bj
    rw [partLoop_eq, ← hi5, ← hj5] at q6
    refine awp_block ?_
    refine awp_cut ⟨tmps 178 [(0, .own 0 n), (1, .int .i64 a), (2, .int .i64 b), (3, .int .i64 p), (4, .fn (.func 60) [] []), (10, .int .i64 0), (11, .bool false), (12, .int .i64 i5), (13, .int .i64 j)], [.reg 34 12 (rows f)]⟩ (awp_of ?_) ?_
    ·
      simp +decide -dsimp -implicitDefEqProofs [go_sem]
      refine loop_of (S := Nat) (fun s => ⟨tmps 178 [(0, .own 0 n), (1, .int .i64 a), (2, .int .i64 b), (3, .int .i64 p), (4, .fn (.func 60) [] []), (10, .int .i64 0), (11, .bool false), (12, .int .i64 (s : Nat)), (13, .int .i64 j)], [.reg 34 12 (rows f)]⟩) (fun s => j + 1 - s) (fun s => a + 1 ≤ s ∧ s ≤ j + 1 ∧ i5 = scanUp (fun x => ltR x f[a]!) f j s) (i) ⟨by omega, by omega, hi5⟩ (cut_of (by simp) ?_) ?_
      · simp +decide -dsimp -implicitDefEqProofs [go_sem]
        exact rows_cl _ _
      rintro s ⟨s1, s2, s3⟩
      by_cases h : s ≤ j
      · have gi := rows_get (d := f) (j := s) (by omega) (by omega)
        have hsn : s < n := by omega
        have cl := less_c _ _ (okP_at q5 (j := s) (by omega)) (okP_at q5 (j := a) (by omega))
        have w1 : IntKind.i64.wrap ((s : Int) + 1) = s + 1 := w64 (by omega) (by omega)
        simp +decide -dsimp -implicitDefEqProofs [go_sem, h, hle, hsn, han, gi, ga, rRow_len, rRow_take]
        refine callDE_pure cl (by simp +decide -dsimp -implicitDefEqProofs [go_sem, rRow_cl]) rfl ?_
        by_cases hlt : cmpP f[s]!.path f[a]!.path < 0
        · conv at s3 => rhs; rw [scanUp, if_pos (by simpa [ltR, hlt] using h)]
          simp +decide -dsimp -implicitDefEqProofs [go_sem, hlt, w1]
          refine next_of (s + 1) ⟨by omega, by omega, s3⟩ (by omega) (cut_of (by simp) ?_)
          simp +decide -dsimp -implicitDefEqProofs [go_sem]
          exact rows_cl _ _
        · conv at s3 => rhs; rw [scanUp, if_neg (by simp [ltR, hlt])]
          subst s3
          simp +decide -dsimp -implicitDefEqProofs [go_sem, hlt]
          refine cutE_of (by simp) ?_
          simp +decide -dsimp -implicitDefEqProofs [go_sem]
          exact rows_cl _ _
      · conv at s3 => rhs; rw [scanUp, if_neg (by simp [h])]
        subst s3
        simp +decide -dsimp -implicitDefEqProofs [go_sem, h]
        refine cutE_of (by simp) ?_
        simp +decide -dsimp -implicitDefEqProofs [go_sem]
        exact rows_cl _ _
    refine awp_cut ⟨tmps 178 [(0, .own 0 n), (1, .int .i64 a), (2, .int .i64 b), (3, .int .i64 p), (4, .fn (.func 60) [] []), (10, .int .i64 0), (11, .bool false), (12, .int .i64 i5), (13, .int .i64 j5)], [.reg 34 12 (rows f)]⟩ (awp_of ?_) ?_
    ·
      simp +decide -dsimp -implicitDefEqProofs [go_sem]
      refine loop_of (S := Nat) (fun s => ⟨tmps 178 [(0, .own 0 n), (1, .int .i64 a), (2, .int .i64 b), (3, .int .i64 p), (4, .fn (.func 60) [] []), (10, .int .i64 0), (11, .bool false), (12, .int .i64 i5), (13, .int .i64 (s : Nat))], [.reg 34 12 (rows f)]⟩) (fun s => s) (fun s => s ≤ j ∧ i5 ≤ s + 1 ∧ j5 = scanDown (fun x => !ltR x f[a]!) f i5 s) (j) ⟨by omega, by omega, hj5⟩ (cut_of (by simp) ?_) ?_
      · simp +decide -dsimp -implicitDefEqProofs [go_sem]
        exact rows_cl _ _
      rintro s ⟨s1, s2, s3⟩
      by_cases h : i5 ≤ s
      · have gi := rows_get (d := f) (j := s) (by omega) (by omega)
        have hsn : s < n := by omega
        have cl := less_c _ _ (okP_at q5 (j := s) (by omega)) (okP_at q5 (j := a) (by omega))
        have w1 : IntKind.i64.wrap ((s : Int) - 1) = ((s - 1 : Nat) : Int) := by rw [w64 (by omega) (by omega)]; omega
        simp +decide -dsimp -implicitDefEqProofs [go_sem, h, hle, hsn, han, gi, ga, rRow_len, rRow_take]
        refine callDE_pure cl (by simp +decide -dsimp -implicitDefEqProofs [go_sem, rRow_cl]) rfl ?_
        by_cases hlt : cmpP f[s]!.path f[a]!.path < 0
        · rw [scanDown_endR _ _ _ _ (.inr (by simp [ltR, hlt]))] at s3
          subst s3
          simp +decide -dsimp -implicitDefEqProofs [go_sem, hlt]
          refine cutE_of (by simp) ?_
          simp +decide -dsimp -implicitDefEqProofs [go_sem]
          exact rows_cl _ _
        · rw [scanDown_goR _ _ _ _ h (by omega) (by simp [ltR, hlt])] at s3
          simp +decide -dsimp -implicitDefEqProofs [go_sem, hlt, w1]
          refine next_of (s - 1) ⟨by omega, by omega, s3⟩ (by omega) (cut_of (by simp) ?_)
          simp +decide -dsimp -implicitDefEqProofs [go_sem]
          exact rows_cl _ _
      · rw [scanDown_endR _ _ _ _ (.inl h)] at s3
        subst s3
        simp +decide -dsimp -implicitDefEqProofs [go_sem, h]
        refine cutE_of (by simp) ?_
        simp +decide -dsimp -implicitDefEqProofs [go_sem]
        exact rows_cl _ _
    by_cases hij5 : i5 > j5
    · have hij6 : (j5 : Int) < (i5 : Int) := by omega
      rw [if_pos hij5] at q6
      rw [q6]
      refine awp_of ?_
      simp +decide -dsimp -implicitDefEqProofs [go_sem, hij6]
      refine cutX_of i5 ⟨by show j5 < b; omega, q4, q5⟩ (cut_of (by simp) ?_)
      simp +decide -dsimp -implicitDefEqProofs [go_sem]
      exact rows_cl _ _
    have hij6 : ¬ (j5 : Int) < (i5 : Int) := by omega
    have hl5 : i5 < j5 := scans_ltR hi5 hj5 (by omega) (by omega)
    rw [if_neg hij5] at q6
    have hin5 : i5 < n := by omega
    have hjn5 : j5 < n := by omega
    have gx := rows_get (d := f) (j := i5) (by omega) (by omega)
    have gy := rows_get (d := f) (j := j5) (by omega) (by omega)
    have hsw := rows_swp f i5 j5
    have wi : IntKind.i64.wrap ((i5 : Int) + 1) = (i5 : Int) + 1 := w64 (by omega) (by omega)
    have wj : IntKind.i64.wrap ((j5 : Int) - 1) = ((j5 - 1 : Nat) : Int) := by rw [w64 (by omega) (by omega)]; omega
    refine awp_of ?_
    simp +decide -dsimp -implicitDefEqProofs [go_sem, hij6, hle, hin5, hjn5, gx, gy, rRow_len, rRow_take, rRow_drop, rows_set_len, rows_set_drop, wi, wj]
    rw [hsw]
    refine next_of (i5 + 1, j5 - 1, swp f i5 j5) ⟨by show a + 1 ≤ i5 + 1; omega, by show i5 + 1 ≤ j5 - 1 + 1; omega, by show j5 - 1 < b; omega, by show (swp f i5 j5).size = n; rw [swp_size, q4], okP_swp q5 (by omega) (by omega), q6⟩ (by show j5 - 1 + 1 - (i5 + 1) < j + 1 - i; omega) (cut_of (by simp) ?_)
    simp +decide -dsimp -implicitDefEqProofs [go_sem]
    exact rows_cl _ _
  rintro s ⟨r1, r2, r3⟩
  obtain ⟨j7, f⟩ := r
  simp only at r1 r2 r3 ⊢
  have hle : (rows f).length = n := by rw [rows_len, r2]
  have hjn7 : j7 < n := by omega
  have gx := rows_get (d := f) (j := j7) (by omega) (by omega)
  have ga := rows_get (d := f) (j := a) (by omega) (by omega)
  have hsw := rows_swp f j7 a
  refine awp_of ?_
  simp +decide -dsimp -implicitDefEqProofs [go_sem, hle, han, hjn7, gx, ga, rRow_len, rRow_take, rRow_drop, rows_set_len, rows_set_drop]
  rw [hsw]
  exact ⟨rfl, rows_cl _ _⟩
end Go.Ab
namespace Go.Ab
open Go Go.Proofs Go.Sort
theorem sd_ok : ∀ (j : Nat) (d : Array Rcd), j < d.size → okP d → okP (shiftDown ltR j d) ∧ (shiftDown ltR j d).size = d.size
  | 0, d, _, h => ⟨h, rfl⟩
  | j + 1, d, hj, h => by
    rw [shiftDown]
    split
    · exact ⟨h, rfl⟩
    · have := sd_ok j (swp d (j + 1) j) (by rw [swp_size]; omega) (okP_swp h hj (by omega))
      rw [swp_size] at this
      exact this
theorem su_ok (b : Nat) : ∀ (k j : Nat) (d : Array Rcd), b - j ≤ k → b ≤ d.size → 1 ≤ j → okP d → okP (shiftUp ltR b j d) ∧ (shiftUp ltR b j d).size = d.size
  | 0, j, d, hk, _, _, h => by
    rw [shiftUp, if_neg (by omega)]
    exact ⟨h, rfl⟩
  | k + 1, j, d, hk, hb, hj, h => by
    rw [shiftUp]
    split
    · split
      · exact ⟨h, rfl⟩
      · have := su_ok b k (j + 1) (swp d j (j - 1)) (by omega) (by rw [swp_size]; exact hb) (by omega) (okP_swp h (by omega) (by omega))
        rw [swp_size] at this
        exact this
    · exact ⟨h, rfl⟩
theorem ss_bd {lt : Rcd → Rcd → Bool} {d : Array Rcd} {b : Nat} : ∀ (k i : Nat), b - i ≤ k → i ≤ b → i ≤ scanSorted lt d b i ∧ scanSorted lt d b i ≤ b
  | 0, i, hk, hi => by
    rw [scanSorted, if_neg (by simp; omega)]
    exact ⟨Nat.le_refl _, hi⟩
  | k + 1, i, hk, hi => by
    rw [scanSorted]
    split
    · rename_i h
      simp only [Bool.and_eq_true, decide_eq_true_eq] at h
      have := ss_bd (lt := lt) (d := d) (b := b) k (i + 1) (by omega) (by omega)
      exact ⟨by omega, this.2⟩
    · exact ⟨Nat.le_refl _, hi⟩
set_option maxRecDepth 20000 in
set_option maxHeartbeats 8000000 in
theorem partialIns_c (d0 : Array Rcd) (a b : Nat) (hn : d0.size ≤ 100000) (h0 : okP d0) (hab : a < b) (hb : b ≤ d0.size) :
    ACalls Tryz.prog 134 [.own 0 d0.size, .int .i64 a, .int .i64 b, .fn (.func 60) [] []] [rgO d0]
      (.bool (partialInsertionSort ltR d0 a b).2) [rgO (partialInsertionSort ltR d0 a b).1] := by
  obtain ⟨n, hN⟩ : ∃ n, n = d0.size := ⟨_, rfl⟩
  rw [← hN] at hn hb ⊢
  obtain ⟨r, hr⟩ : ∃ r, r = partialInsertionSort ltR d0 a b := ⟨_, rfl⟩
  rw [← hr]
  rw [partialInsertionSort] at hr
  obtain ⟨ia, hia⟩ : ∃ x, x = a + 1 := ⟨_, rfl⟩
  rw [← hia] at hr
  have wa : IntKind.i64.wrap ((a : Int) + 1) = (ia : Int) := by rw [w64 (by omega) (by omega)]; omega
  have wba : IntKind.i64.wrap ((b : Int) - (a : Int)) = (b : Int) - (a : Int) := w64 (by omega) (by omega)
  refine acalls_A c134_ok rfl ?_
  unfold c134 rgO
  refine awp_cut ⟨tmps 141 [(0, .own 0 n), (1, .int .i64 a), (2, .int .i64 b), (3, .fn (.func 60) [] []), (8, .bool false)], [.reg 34 12 (rows d0)]⟩ (awp_of ?_) ?_
  ·
    simp +decide -dsimp -implicitDefEqProofs [go_sem]
    refine cutE_of (by simp) ?_
    simp +decide -dsimp -implicitDefEqProofs [go_sem]
    exact rows_cl _ _
  refine awp_cut ⟨tmps 141 [(0, .own 0 n), (1, .int .i64 a), (2, .int .i64 b), (3, .fn (.func 60) [] []), (8, .bool false), (9, .int .i64 ia)], [.reg 34 12 (rows d0)]⟩ (awp_of ?_) ?_
  ·
    simp +decide -dsimp -implicitDefEqProofs [go_sem, wa]
    refine cutE_of (by simp) ?_
    simp +decide -dsimp -implicitDefEqProofs [go_sem]
    exact rows_cl _ _
  refine awp_cutX (S := Nat) (fun s => ⟨tmps 141 [(0, .own 0 n), (1, .int .i64 a), (2, .int .i64 b), (3, .fn (.func 60) [] []), (8, .bool false), (9, .int .i64 (s : Nat)), (10, .int .i64 5)], [.reg 34 12 (rows r.1)]⟩) (fun _ => r.2 = false) ?_ ?_
  ·
    refine awp_cut ⟨tmps 141 [(0, .own 0 n), (1, .int .i64 a), (2, .int .i64 b), (3, .fn (.func 60) [] []), (8, .bool false), (9, .int .i64 ia), (10, .int .i64 0)], [.reg 34 12 (rows d0)]⟩ (awp_of ?_) ?_
    ·
      simp +decide -dsimp -implicitDefEqProofs [go_sem]
      refine cutE_of (by simp) ?_
      simp +decide -dsimp -implicitDefEqProofs [go_sem]
      exact rows_cl _ _
    refine awp_block (awp_of ?_)
    simp +decide -dsimp -implicitDefEqProofs [go_sem]
    refine loop_ofA (S := Nat × Nat × Array Rcd) (fun s => ⟨tmps 141 [(0, .own 0 n), (1, .int .i64 a), (2, .int .i64 b), (3, .fn (.func 60) [] []), (8, .bool false), (9, .int .i64 s.2.1), (10, .int .i64 s.1)], [.reg 34 12 (rows s.2.2)]⟩) (fun s => 5 - s.1) (fun s => s.1 ≤ 5 ∧ a + 1 ≤ s.2.1 ∧ s.2.1 ≤ b ∧ s.2.2.size = n ∧ okP s.2.2 ∧ r = partialIns ltR a b (5 - s.1) s.2.1 s.2.2) (0, ia, d0) ⟨Nat.zero_le _, by show a + 1 ≤ ia; omega, by show ia ≤ b; omega, hN.symm, h0, hr⟩ (cut_of (by simp) ?_) ?_
    ·
      simp +decide -dsimp -implicitDefEqProofs [go_sem]
      exact rows_cl _ _
    rintro ⟨t, i, d⟩ ⟨q1, q2, q3, q4, q5, q6⟩
    simp only at q1 q2 q3 q4 q5 q6
    by_cases ht : t < 5
    rotate_left
    · have ht5 : t = 5 := by omega
      subst ht5
      have q6 : r = (d, false) := q6
      rw [q6]
      refine awp_of ?_
      simp +decide -dsimp -implicitDefEqProofs [go_sem]
      refine cutX_of i (by simp) (cut_of (by simp) ?_)
      simp +decide -dsimp -implicitDefEqProofs [go_sem]
      exact rows_cl _ _
    obtain ⟨t5, ht5⟩ : ∃ x, 5 - t = x + 1 := ⟨4 - t, by omega⟩
    have ht4 : 5 - (t + 1) = t5 := by omega
    have hti : (t : Int) < 5 := by omega
    have wt : IntKind.i64.wrap ((t : Int) + 1) = t + 1 := w64 (by omega) (by omega)
    refine awp_cut ⟨tmps 141 [(0, .own 0 n), (1, .int .i64 a), (2, .int .i64 b), (3, .fn (.func 60) [] []), (8, .bool false), (9, .int .i64 i), (10, .int .i64 t)], [.reg 34 12 (rows d)]⟩ (awp_of ?_) ?_
    ·
      simp +decide -dsimp -implicitDefEqProofs [go_sem, hti]
      refine cutE_of (by simp) ?_
      simp +decide -dsimp -implicitDefEqProofs [go_sem]
      exact rows_cl _ _
    rw [ht5, partialIns_succ] at q6
    obtain ⟨bs1, bs2⟩ := ss_bd (lt := ltR) (d := d) (b := b) _ i (Nat.le_refl _) q3
    obtain ⟨i5, hi5⟩ : ∃ x, x = scanSorted ltR d b i := ⟨_, rfl⟩
    rw [← hi5] at q6 bs1 bs2
    obtain ⟨e1, he1⟩ : ∃ x, x = swp d i5 (i5 - 1) := ⟨_, rfl⟩
    obtain ⟨e2, he2⟩ : ∃ x, x = (if i5 - a ≥ 2 then shiftDown ltR (i5 - 1) e1 else e1) := ⟨_, rfl⟩
    obtain ⟨e3, he3⟩ : ∃ x, x = (if b - i5 ≥ 2 then shiftUp ltR b (i5 + 1) e2 else e2) := ⟨_, rfl⟩
    have hf : fixUp ltR b i5 (fixDown ltR a i5 (swp d i5 (i5 - 1))) = e3 := by subst he3 he2 he1; rfl
    rw [hf] at q6
    have hle : (rows d).length = n := by rw [rows_len, q4]
    refine awp_cutX (S := Unit) (fun _ => ⟨tmps 141 [(0, .own 0 n), (1, .int .i64 a), (2, .int .i64 b), (3, .fn (.func 60) [] []), (8, .bool false), (9, .int .i64 i5), (10, .int .i64 t)], [.reg 34 12 (rows e3)]⟩) (fun _ => r = partialIns ltR a b t5 i5 e3 ∧ e3.size = n ∧ okP e3) (awp_block ?_) ?_
    rotate_left
    · rintro _ ⟨p1, p2, p3⟩
      refine awp_of ?_
      simp +decide -dsimp -implicitDefEqProofs [go_sem, wt]
      refine next_of (t + 1, i5, e3) ⟨by show t + 1 ≤ 5; omega, by show a + 1 ≤ i5; omega, bs2, p2, p3, by show r = partialIns ltR a b (5 - (t + 1)) i5 e3; rw [ht4]; exact p1⟩ (by show 5 - (t + 1) < 5 - t; omega) (cut_of (by simp) ?_)
      simp +decide -dsimp -implicitDefEqProofs [go_sem]
      exact rows_cl _ _
    refine awp_cut ⟨tmps 141 [(0, .own 0 n), (1, .int .i64 a), (2, .int .i64 b), (3, .fn (.func 60) [] []), (8, .bool false), (9, .int .i64 i5), (10, .int .i64 t)], [.reg 34 12 (rows d)]⟩ (awp_of ?_) ?_
    ·
      simp +decide -dsimp -implicitDefEqProofs [go_sem]
      refine loop_of (S := Nat) (fun s => ⟨tmps 141 [(0, .own 0 n), (1, .int .i64 a), (2, .int .i64 b), (3, .fn (.func 60) [] []), (8, .bool false), (9, .int .i64 (s : Nat)), (10, .int .i64 t)], [.reg 34 12 (rows d)]⟩) (fun s => b - s) (fun s => a + 1 ≤ s ∧ s ≤ b ∧ i5 = scanSorted ltR d b s) i ⟨q2, q3, hi5⟩ (cut_of (by simp) ?_) ?_
      ·
        simp +decide -dsimp -implicitDefEqProofs [go_sem]
        exact rows_cl _ _
      rintro s ⟨s1, s2, s3⟩
      by_cases h : s < b
      · have g1 := rows_get (d := d) (j := s) (by omega) (by omega)
        have g2 := rows_get (d := d) (j := s - 1) (by omega) (by omega)
        have hsn : s < n := by omega
        have hs1 : s - 1 < n := by omega
        have cl := less_c _ _ (okP_at q5 (j := s) (by omega)) (okP_at q5 (j := s - 1) (by omega))
        have w1 : IntKind.i64.wrap ((s : Int) - 1) = ((s - 1 : Nat) : Int) := by rw [w64 (by omega) (by omega)]; omega
        have w2 : IntKind.i64.wrap ((s : Int) + 1) = s + 1 := w64 (by omega) (by omega)
        simp +decide -dsimp -implicitDefEqProofs [go_sem, h, hle, hsn, hs1, g1, g2, w1, rRow_len, rRow_take]
        refine callDE_pure cl (by simp +decide -dsimp -implicitDefEqProofs [go_sem, rRow_cl]) rfl ?_
        by_cases hlt : cmpP d[s]!.path d[s - 1]!.path < 0
        · conv at s3 => rhs; rw [scanSorted, if_neg (by simp [ltR, hlt])]
          subst s3
          simp +decide -dsimp -implicitDefEqProofs [go_sem, hlt]
          refine cutE_of (by simp) ?_
          simp +decide -dsimp -implicitDefEqProofs [go_sem]
          exact rows_cl _ _
        · conv at s3 => rhs; rw [scanSorted, if_pos (by simpa [ltR, hlt] using h)]
          simp +decide -dsimp -implicitDefEqProofs [go_sem, hlt, w2]
          refine next_of (s + 1) ⟨by omega, by omega, s3⟩ (by omega) (cut_of (by simp) ?_)
          simp +decide -dsimp -implicitDefEqProofs [go_sem]
          exact rows_cl _ _
      · conv at s3 => rhs; rw [scanSorted, if_neg (by simp [h])]
        subst s3
        simp +decide -dsimp -implicitDefEqProofs [go_sem, h]
        refine cutE_of (by simp) ?_
        simp +decide -dsimp -implicitDefEqProofs [go_sem]
        exact rows_cl _ _
    by_cases hib : i5 = b
    · rw [if_pos hib] at q6
      rw [q6]
      refine awp_of ?_
      simp +decide -dsimp -implicitDefEqProofs [go_sem, hib]
      exact rows_cl _ _
    rw [if_neg hib] at q6
    have hib2 : ¬ (i5 : Int) = (b : Int) := by omega
    refine awp_cut ⟨tmps 141 [(0, .own 0 n), (1, .int .i64 a), (2, .int .i64 b), (3, .fn (.func 60) [] []), (8, .bool false), (9, .int .i64 i5), (10, .int .i64 t)], [.reg 34 12 (rows d)]⟩ (awp_of ?_) ?_
    ·
      simp +decide -dsimp -implicitDefEqProofs [go_sem, hib2]
      refine cutE_of (by simp) ?_
      simp +decide -dsimp -implicitDefEqProofs [go_sem]
      exact rows_cl _ _
    by_cases h50 : b - a < 50
    · rw [if_pos h50] at q6
      rw [q6]
      have h51 : (b : Int) - (a : Int) < 50 := by omega
      refine awp_of ?_
      simp +decide -dsimp -implicitDefEqProofs [go_sem, wba, h51]
      exact rows_cl _ _
    rw [if_neg h50] at q6
    have h51 : ¬ (b : Int) - (a : Int) < 50 := by omega
    refine awp_cut ⟨tmps 141 [(0, .own 0 n), (1, .int .i64 a), (2, .int .i64 b), (3, .fn (.func 60) [] []), (8, .bool false), (9, .int .i64 i5), (10, .int .i64 t)], [.reg 34 12 (rows d)]⟩ (awp_of ?_) ?_
    ·
      simp +decide -dsimp -implicitDefEqProofs [go_sem, wba, h51]
      refine cutE_of (by simp) ?_
      simp +decide -dsimp -implicitDefEqProofs [go_sem]
      exact rows_cl _ _
    have hin : i5 < n := by omega
    have hi1 : i5 - 1 < n := by omega
    have w1 : IntKind.i64.wrap ((i5 : Int) - 1) = ((i5 - 1 : Nat) : Int) := by rw [w64 (by omega) (by omega)]; omega
    have w2 : IntKind.i64.wrap ((i5 : Int) + 1) = ((i5 + 1 : Nat) : Int) := by rw [w64 (by omega) (by omega)]; omega
    have w3 : IntKind.i64.wrap ((i5 : Int) - (a : Int)) = (i5 : Int) - a := w64 (by omega) (by omega)
    have w4 : IntKind.i64.wrap ((b : Int) - (i5 : Int)) = (b : Int) - i5 := w64 (by omega) (by omega)
    refine awp_cut ⟨tmps 141 [(0, .own 0 n), (1, .int .i64 a), (2, .int .i64 b), (3, .fn (.func 60) [] []), (8, .bool false), (9, .int .i64 i5), (10, .int .i64 t)], [.reg 34 12 (rows e1)]⟩ (awp_of ?_) ?_
    · have gx := rows_get (d := d) (j := i5) (by omega) (by omega)
      have gy := rows_get (d := d) (j := i5 - 1) (by omega) (by omega)
      have hsw := rows_swp d i5 (i5 - 1)
      simp +decide -dsimp -implicitDefEqProofs [go_sem, hle, hin, hi1, gx, gy, w1, rRow_len, rRow_take, rRow_drop, rows_set_len, rows_set_drop]
      rw [hsw, ← he1]
      refine cutE_of (by simp) ?_
      simp +decide -dsimp -implicitDefEqProofs [go_sem]
      exact rows_cl _ _
    have z1 : e1.size = n := by rw [he1, swp_size, q4]
    have o1 : okP e1 := by rw [he1]; exact okP_swp q5 (by omega) (by omega)
    have zo2 : okP e2 ∧ e2.size = n := by
      rw [he2]
      split
      · have := sd_ok (i5 - 1) e1 (by omega) o1; rw [z1] at this; exact this
      · exact ⟨o1, z1⟩
    obtain ⟨o2, z2⟩ := zo2
    have zo3 : okP e3 ∧ e3.size = n := by
      rw [he3]
      split
      · have := su_ok b _ (i5 + 1) e2 (Nat.le_refl _) (by omega) (by omega) o2; rw [z2] at this; exact this
      · exact ⟨o2, z2⟩
    obtain ⟨o3, z3⟩ := zo3
    clear hi5 hr he1 hle
    refine awp_cut ⟨tmps 141 [(0, .own 0 n), (1, .int .i64 a), (2, .int .i64 b), (3, .fn (.func 60) [] []), (8, .bool false), (9, .int .i64 i5), (10, .int .i64 t)], [.reg 34 12 (rows e2)]⟩ (awp_of ?_) ?_
    · by_cases h2 : i5 - a ≥ 2
      · rw [if_pos h2] at he2
        have h2i : (2 : Int) ≤ (i5 : Int) - a := by omega
        simp +decide -dsimp -implicitDefEqProofs [go_sem, w3, w1, h2i]
        refine loop_of (S := Nat × Array Rcd) (fun s => ⟨tmps 141 [(0, .own 0 n), (1, .int .i64 a), (2, .int .i64 b), (3, .fn (.func 60) [] []), (8, .bool false), (9, .int .i64 i5), (10, .int .i64 t), (11, .int .i64 s.1)], [.reg 34 12 (rows s.2)]⟩) (fun s => s.1) (fun s => s.1 < n ∧ s.2.size = n ∧ okP s.2 ∧ e2 = shiftDown ltR s.1 s.2) (i5 - 1, e1) ⟨hi1, z1, o1, he2⟩ (cut_of (by simp) ?_) ?_
        ·
          simp +decide -dsimp -implicitDefEqProofs [go_sem]
          exact rows_cl _ _
        rintro ⟨j, f⟩ ⟨s1, s2, s3, s4⟩
        simp only at s1 s2 s3 s4
        cases j with
        | zero =>
          have s4 : e2 = f := s4
          subst s4
          simp +decide -dsimp -implicitDefEqProofs [go_sem]
          refine cutE_of (by simp) ?_
          simp +decide -dsimp -implicitDefEqProofs [go_sem]
          exact rows_cl _ _
        | succ j =>
          have hle : (rows f).length = n := by rw [rows_len, s2]
          have g1 := rows_get (d := f) (j := j + 1) (by omega) (by omega)
          have g2 := rows_get (d := f) (j := j) (by omega) (by omega)
          have hj : j < n := by omega
          have hz : (0 : Int) ≤ (j : Int) + 1 := by omega
          have hz1 : (1 : Int) ≤ (j : Int) + 1 := by omega
          have cl := less_c _ _ (okP_at s3 (j := j + 1) (by omega)) (okP_at s3 (j := j) (by omega))
          have wj : IntKind.i64.wrap (j : Int) = (j : Int) := w64 (by omega) (by omega)
          have hsw := rows_swp f (j + 1) j
          simp +decide -dsimp -implicitDefEqProofs [go_sem, hz, hz1, hle, s1, hj, g1, g2, wj, rRow_len, rRow_take]
          refine callDE_pure cl (by simp +decide -dsimp -implicitDefEqProofs [go_sem, rRow_cl]) rfl ?_
          rw [shiftDown] at s4
          by_cases hlt : cmpP f[j + 1]!.path f[j]!.path < 0
          · rw [if_neg (by simp [ltR, hlt])] at s4
            simp +decide -dsimp -implicitDefEqProofs [go_sem, hz, hle, s1, hj, g1, g2, wj, hlt, rRow_len, rRow_take, rRow_drop]
            rw [hsw]
            refine next_of (j, swp f (j + 1) j) ⟨hj, by show (swp f (j + 1) j).size = n; rw [swp_size, s2], okP_swp s3 (by omega) (by omega), s4⟩ (Nat.lt_succ_self j) (cut_of (by simp) ?_)
            simp +decide -dsimp -implicitDefEqProofs [go_sem]
            exact rows_cl _ _
          · rw [if_pos (by simp [ltR, hlt])] at s4
            subst s4
            simp +decide -dsimp -implicitDefEqProofs [go_sem, hlt]
            refine cutE_of (by simp) ?_
            simp +decide -dsimp -implicitDefEqProofs [go_sem]
            exact rows_cl _ _
      · rw [if_neg h2] at he2
        subst he2
        have h2i : ¬ (2 : Int) ≤ (i5 : Int) - a := by omega
        simp +decide -dsimp -implicitDefEqProofs [go_sem, w3, h2i]
        refine cutE_of (by simp) ?_
        simp +decide -dsimp -implicitDefEqProofs [go_sem]
        exact rows_cl _ _
    refine awp_of ?_
    by_cases h2 : b - i5 ≥ 2
    · rw [if_pos h2] at he3
      have h2i : (2 : Int) ≤ (b : Int) - i5 := by omega
      simp +decide -dsimp -implicitDefEqProofs [go_sem, w4, w2, h2i]
      refine loop_of (S := Nat × Array Rcd) (fun s => ⟨tmps 141 [(0, .own 0 n), (1, .int .i64 a), (2, .int .i64 b), (3, .fn (.func 60) [] []), (8, .bool false), (9, .int .i64 i5), (10, .int .i64 t), (12, .int .i64 s.1)], [.reg 34 12 (rows s.2)]⟩) (fun s => b - s.1) (fun s => 1 ≤ s.1 ∧ s.2.size = n ∧ okP s.2 ∧ e3 = shiftUp ltR b s.1 s.2) (i5 + 1, e2) ⟨by show 1 ≤ i5 + 1; omega, z2, o2, he3⟩ (cut_of (by simp) ?_) ?_
      ·
        simp +decide -dsimp -implicitDefEqProofs [go_sem]
        exact rows_cl _ _
      rintro ⟨j, f⟩ ⟨s1, s2, s3, s4⟩
      simp only at s1 s2 s3 s4
      by_cases h : j < b
      rotate_left
      · rw [shiftUp, if_neg h] at s4
        subst s4
        simp +decide -dsimp -implicitDefEqProofs [go_sem, h]
        refine cutX_of () ⟨q6, z3, o3⟩ (cut_of (by simp) ?_)
        simp +decide -dsimp -implicitDefEqProofs [go_sem]
        exact rows_cl _ _
      have hle : (rows f).length = n := by rw [rows_len, s2]
      have g1 := rows_get (d := f) (j := j) (by omega) (by omega)
      have g2 := rows_get (d := f) (j := j - 1) (by omega) (by omega)
      have hj : j < n := by omega
      have hj1 : j - 1 < n := by omega
      have cl := less_c _ _ (okP_at s3 (j := j) (by omega)) (okP_at s3 (j := j - 1) (by omega))
      have wj : IntKind.i64.wrap ((j : Int) - 1) = ((j - 1 : Nat) : Int) := by rw [w64 (by omega) (by omega)]; omega
      have wk : IntKind.i64.wrap ((j : Int) + 1) = j + 1 := w64 (by omega) (by omega)
      have hsw := rows_swp f j (j - 1)
      simp +decide -dsimp -implicitDefEqProofs [go_sem, h, hle, hj, hj1, g1, g2, wj, rRow_len, rRow_take]
      refine callDE_pure cl (by simp +decide -dsimp -implicitDefEqProofs [go_sem, rRow_cl]) rfl ?_
      conv at s4 => rhs; rw [shiftUp, if_pos h]
      by_cases hlt : cmpP f[j]!.path f[j - 1]!.path < 0
      · conv at s4 => rhs; rw [if_neg (by simp [ltR, hlt])]
        simp +decide -dsimp -implicitDefEqProofs [go_sem, hle, hj, hj1, g1, g2, wj, wk, hlt, rRow_len, rRow_take, rRow_drop, rows_set_len, rows_set_drop]
        rw [hsw]
        refine next_of (j + 1, swp f j (j - 1)) ⟨by show 1 ≤ j + 1; omega, by show (swp f j (j - 1)).size = n; rw [swp_size, s2], okP_swp s3 (by omega) (by omega), s4⟩ (by show b - (j + 1) < b - j; omega) (cut_of (by simp) ?_)
        simp +decide -dsimp -implicitDefEqProofs [go_sem]
        exact rows_cl _ _
      · conv at s4 => rhs; rw [if_pos (by simp [ltR, hlt])]
        subst s4
        simp +decide -dsimp -implicitDefEqProofs [go_sem, hlt]
        refine cutX_of () ⟨q6, z3, o3⟩ (cut_of (by simp) ?_)
        simp +decide -dsimp -implicitDefEqProofs [go_sem]
        exact rows_cl _ _
    · rw [if_neg h2] at he3
      subst he3
      have h2i : ¬ (2 : Int) ≤ (b : Int) - i5 := by omega
      simp +decide -dsimp -implicitDefEqProofs [go_sem, w4, h2i]
      refine cutX_of () ⟨q6, z3, o3⟩ (cut_of (by simp) ?_)
      simp +decide -dsimp -implicitDefEqProofs [go_sem]
      exact rows_cl _ _
  rintro s r2
  refine awp_of ?_
  simp +decide -dsimp -implicitDefEqProofs [go_sem, r2]
  exact rows_cl _ _
end Go.Ab
namespace Go.Ab
open Go Go.Proofs Go.Sort
theorem scans_ltE {α : Type} [Inhabited α] {lt : α → α → Bool} {a i j i2 j2 : Nat} {d : Array α} (hi : i2 = scanUp (fun x => !lt d[a]! x) d j i) (hj : j2 = scanDown (fun x => lt d[a]! x) d i2 j) (h0 : 0 < i) (h : i2 ≤ j2) : i2 < j2 := by
  have bi := scanUp_spec (fun x => !lt d[a]! x) d j _ i rfl
  rw [← hi] at bi
  have bj := scanDown_spec (fun x => lt d[a]! x) d i2 j
  rw [← hj] at bj
  rcases Nat.lt_or_ge i2 j2 with h' | h'
  · exact h'
  · have e : j2 = i2 := by omega
    have f1 := bi.2.2.2 (by have := bj.1; omega)
    have f2 := bj.2.2.2 h (by have := bi.1; omega)
    rw [e] at f2
    simp only [f2] at f1
    cases f1
set_option maxRecDepth 20000 in
set_option maxHeartbeats 8000000 in
theorem partitionEq_c (d0 : Array Rcd) (a b p : Nat) (hn : d0.size ≤ 100000) (h0 : okP d0) (hap : a ≤ p) (hpb : p < b) (hb : b ≤ d0.size) :
    ACalls Tryz.prog 135 [.own 0 d0.size, .int .i64 a, .int .i64 b, .int .i64 p, .fn (.func 60) [] []] [rgO d0]
      (.int .i64 (partitionEqual ltR d0 a b p).1) [rgO (partitionEqual ltR d0 a b p).2] := by
  obtain ⟨n, hN⟩ : ∃ n, n = d0.size := ⟨_, rfl⟩
  rw [← hN] at hn hb ⊢
  have hle0 : (rows d0).length = n := by rw [rows_len, hN]
  have han : a < n := by omega
  have hpn : p < n := by omega
  obtain ⟨e, hee⟩ : ∃ d, d = swp d0 a p := ⟨_, rfl⟩
  have he : e.size = n := by rw [hee, swp_size, hN]
  have hoe : okP e := by rw [hee]; exact okP_swp h0 (by omega) (by omega)
  obtain ⟨j3, hj3⟩ : ∃ x, x = b - 1 := ⟨_, rfl⟩
  obtain ⟨i3, hi3⟩ : ∃ x, x = a + 1 := ⟨_, rfl⟩
  obtain ⟨r, hr⟩ : ∃ r, r = partEqLoop ltR a i3 j3 e := ⟨_, rfl⟩
  have hpart : partitionEqual ltR d0 a b p = r := by
    subst hr hee hj3 hi3
    rfl
  rw [hpart]
  clear hpart
  have wa : IntKind.i64.wrap ((a : Int) + 1) = (i3 : Int) := by rw [w64 (by omega) (by omega)]; omega
  have wb : IntKind.i64.wrap ((b : Int) - 1) = (j3 : Int) := by rw [w64 (by omega) (by omega)]; omega
  refine acalls_A c135_ok rfl ?_
  unfold c135 rgO
  refine awp_cut ⟨tmps 90 [(0, .own 0 n), (1, .int .i64 a), (2, .int .i64 b), (3, .int .i64 p), (4, .fn (.func 60) [] []), (10, .int .i64 0)], [.reg 34 12 (rows d0)]⟩ (awp_of ?_) ?_
  · simp +decide -dsimp -implicitDefEqProofs [go_sem]
    refine cutE_of (by simp) ?_
    simp +decide -dsimp -implicitDefEqProofs [go_sem]
    exact rows_cl _ _
  refine awp_cut ⟨tmps 90 [(0, .own 0 n), (1, .int .i64 a), (2, .int .i64 b), (3, .int .i64 p), (4, .fn (.func 60) [] []), (10, .int .i64 0)], [.reg 34 12 (rows e)]⟩ (awp_of ?_) ?_
  · have gx := rows_get (d := d0) (j := a) (by omega) (by omega)
    have gy := rows_get (d := d0) (j := p) (by omega) (by omega)
    have hsw := rows_swp d0 a p
    simp +decide -dsimp -implicitDefEqProofs [go_sem, hle0, han, hpn, gx, gy, rRow_len, rRow_take, rRow_drop, rows_set_len, rows_set_drop]
    rw [hsw, ← hee]
    refine cutE_of (by simp) ?_
    simp +decide -dsimp -implicitDefEqProofs [go_sem]
    exact rows_cl _ _
  refine awp_cut ⟨tmps 90 [(0, .own 0 n), (1, .int .i64 a), (2, .int .i64 b), (3, .int .i64 p), (4, .fn (.func 60) [] []), (10, .int .i64 0), (11, .int .i64 i3), (12, .int .i64 j3)], [.reg 34 12 (rows e)]⟩ (awp_of ?_) ?_
  · simp +decide -dsimp -implicitDefEqProofs [go_sem, wa, wb]
    refine cutE_of (by simp) ?_
    simp +decide -dsimp -implicitDefEqProofs [go_sem]
    exact rows_cl _ _
  clear hee
  refine awp_cutX (S := Nat) (fun s => ⟨tmps 90 [(0, .own 0 n), (1, .int .i64 a), (2, .int .i64 b), (3, .int .i64 p), (4, .fn (.func 60) [] []), (10, .int .i64 0), (11, .int .i64 r.1), (12, .int .i64 (s : Nat))], [.reg 34 12 (rows r.2)]⟩) (fun _ => True) (awp_block (awp_of ?_)) ?_
  · simp +decide -dsimp -implicitDefEqProofs [go_sem]
    refine loop_ofA (S := Nat × Nat × Array Rcd) (fun s => ⟨tmps 90 [(0, .own 0 n), (1, .int .i64 a), (2, .int .i64 b), (3, .int .i64 p), (4, .fn (.func 60) [] []), (10, .int .i64 0), (11, .int .i64 s.1), (12, .int .i64 s.2.1)], [.reg 34 12 (rows s.2.2)]⟩) (fun s => s.2.1 + 1 - s.1) (fun s => a + 1 ≤ s.1 ∧ s.1 ≤ s.2.1 + 1 ∧ s.2.1 < b ∧ s.2.2.size = n ∧ okP s.2.2 ∧ r = partEqLoop ltR a s.1 s.2.1 s.2.2) (i3, j3, e) ⟨by show a + 1 ≤ i3; omega, by show i3 ≤ j3 + 1; omega, by show j3 < b; omega, he, hoe, hr⟩ (cut_of (by simp) ?_) ?_
    · simp +decide -dsimp -implicitDefEqProofs [go_sem]
      exact rows_cl _ _
    rintro ⟨i, j, f⟩ ⟨q1, q2, q3, q4, q5, q6⟩
    simp only at q1 q2 q3 q4 q5 q6
    have hle : (rows f).length = n := by rw [rows_len, q4]
    have ga := rows_get (d := f) (j := a) (by omega) (by omega)
    obtain ⟨i5, hi5⟩ : ∃ x, x = scanUp (fun x => !ltR f[a]! x) f j i := ⟨_, rfl⟩
    obtain ⟨j5, hj5⟩ : ∃ x, x = scanDown (fun x => ltR f[a]! x) f i5 j := ⟨_, rfl⟩
    have bi := scanUp_spec (fun x => !ltR f[a]! x) f j _ i rfl
    rw [← hi5] at bi
    have bj := scanDown_spec (fun x => ltR f[a]! x) f i5 j
    rw [← hj5] at bj
    have bi1 := bi.1
    have bi2 := bi.2.1 (by omega)
    have bj1 := bj.1
    have bj2 := bj.2.1 (by omega)
    clear bi bj
    rw [partEqLoop_eq, ← hi5, ← hj5] at q6
    refine awp_block ?_
    refine awp_cut ⟨tmps 90 [(0, .own 0 n), (1, .int .i64 a), (2, .int .i64 b), (3, .int .i64 p), (4, .fn (.func 60) [] []), (10, .int .i64 0), (11, .int .i64 i5), (12, .int .i64 j)], [.reg 34 12 (rows f)]⟩ (awp_of ?_) ?_
    ·
      simp +decide -dsimp -implicitDefEqProofs [go_sem]
      refine loop_of (S := Nat) (fun s => ⟨tmps 90 [(0, .own 0 n), (1, .int .i64 a), (2, .int .i64 b), (3, .int .i64 p), (4, .fn (.func 60) [] []), (10, .int .i64 0), (11, .int .i64 (s : Nat)), (12, .int .i64 j)], [.reg 34 12 (rows f)]⟩) (fun s => j + 1 - s) (fun s => a + 1 ≤ s ∧ s ≤ j + 1 ∧ i5 = scanUp (fun x => !ltR f[a]! x) f j s) (i) ⟨by omega, by omega, hi5⟩ (cut_of (by simp) ?_) ?_
      · simp +decide -dsimp -implicitDefEqProofs [go_sem]
        exact rows_cl _ _
      rintro s ⟨s1, s2, s3⟩
      by_cases h : s ≤ j
      · have gi := rows_get (d := f) (j := s) (by omega) (by omega)
        have hsn : s < n := by omega
        have cl := less_c _ _ (okP_at q5 (j := a) (by omega)) (okP_at q5 (j := s) (by omega))
        have w1 : IntKind.i64.wrap ((s : Int) + 1) = s + 1 := w64 (by omega) (by omega)
        simp +decide -dsimp -implicitDefEqProofs [go_sem, h, hle, hsn, han, gi, ga, rRow_len, rRow_take]
        refine callDE_pure cl (by simp +decide -dsimp -implicitDefEqProofs [go_sem, rRow_cl]) rfl ?_
        by_cases hlt : cmpP f[a]!.path f[s]!.path < 0
        · conv at s3 => rhs; rw [scanUp, if_neg (by simp [ltR, hlt])]
          subst s3
          simp +decide -dsimp -implicitDefEqProofs [go_sem, hlt]
          refine cutE_of (by simp) ?_
          simp +decide -dsimp -implicitDefEqProofs [go_sem]
          exact rows_cl _ _
        · conv at s3 => rhs; rw [scanUp, if_pos (by simpa [ltR, hlt] using h)]
          simp +decide -dsimp -implicitDefEqProofs [go_sem, hlt, w1]
          refine next_of (s + 1) ⟨by omega, by omega, s3⟩ (by omega) (cut_of (by simp) ?_)
          simp +decide -dsimp -implicitDefEqProofs [go_sem]
          exact rows_cl _ _
      · conv at s3 => rhs; rw [scanUp, if_neg (by simp [h])]
        subst s3
        simp +decide -dsimp -implicitDefEqProofs [go_sem, h]
        refine cutE_of (by simp) ?_
        simp +decide -dsimp -implicitDefEqProofs [go_sem]
        exact rows_cl _ _
    refine awp_cut ⟨tmps 90 [(0, .own 0 n), (1, .int .i64 a), (2, .int .i64 b), (3, .int .i64 p), (4, .fn (.func 60) [] []), (10, .int .i64 0), (11, .int .i64 i5), (12, .int .i64 j5)], [.reg 34 12 (rows f)]⟩ (awp_of ?_) ?_
    ·
      simp +decide -dsimp -implicitDefEqProofs [go_sem]
      refine loop_of (S := Nat) (fun s => ⟨tmps 90 [(0, .own 0 n), (1, .int .i64 a), (2, .int .i64 b), (3, .int .i64 p), (4, .fn (.func 60) [] []), (10, .int .i64 0), (11, .int .i64 i5), (12, .int .i64 (s : Nat))], [.reg 34 12 (rows f)]⟩) (fun s => s) (fun s => s ≤ j ∧ i5 ≤ s + 1 ∧ j5 = scanDown (fun x => ltR f[a]! x) f i5 s) (j) ⟨by omega, by omega, hj5⟩ (cut_of (by simp) ?_) ?_
      · simp +decide -dsimp -implicitDefEqProofs [go_sem]
        exact rows_cl _ _
      rintro s ⟨s1, s2, s3⟩
      by_cases h : i5 ≤ s
      · have gi := rows_get (d := f) (j := s) (by omega) (by omega)
        have hsn : s < n := by omega
        have cl := less_c _ _ (okP_at q5 (j := a) (by omega)) (okP_at q5 (j := s) (by omega))
        have w1 : IntKind.i64.wrap ((s : Int) - 1) = ((s - 1 : Nat) : Int) := by rw [w64 (by omega) (by omega)]; omega
        simp +decide -dsimp -implicitDefEqProofs [go_sem, h, hle, hsn, han, gi, ga, rRow_len, rRow_take]
        refine callDE_pure cl (by simp +decide -dsimp -implicitDefEqProofs [go_sem, rRow_cl]) rfl ?_
        by_cases hlt : cmpP f[a]!.path f[s]!.path < 0
        · rw [scanDown_goR _ _ _ _ h (by omega) (by simp [ltR, hlt])] at s3
          simp +decide -dsimp -implicitDefEqProofs [go_sem, hlt, w1]
          refine next_of (s - 1) ⟨by omega, by omega, s3⟩ (by omega) (cut_of (by simp) ?_)
          simp +decide -dsimp -implicitDefEqProofs [go_sem]
          exact rows_cl _ _
        · rw [scanDown_endR _ _ _ _ (.inr (by simp [ltR, hlt]))] at s3
          subst s3
          simp +decide -dsimp -implicitDefEqProofs [go_sem, hlt]
          refine cutE_of (by simp) ?_
          simp +decide -dsimp -implicitDefEqProofs [go_sem]
          exact rows_cl _ _
      · rw [scanDown_endR _ _ _ _ (.inl h)] at s3
        subst s3
        simp +decide -dsimp -implicitDefEqProofs [go_sem, h]
        refine cutE_of (by simp) ?_
        simp +decide -dsimp -implicitDefEqProofs [go_sem]
        exact rows_cl _ _
    by_cases hij5 : i5 > j5
    · have hij6 : (j5 : Int) < (i5 : Int) := by omega
      rw [if_pos hij5] at q6
      rw [q6]
      refine awp_of ?_
      simp +decide -dsimp -implicitDefEqProofs [go_sem, hij6]
      refine cutX_of j5 trivial (cut_of (by simp) ?_)
      simp +decide -dsimp -implicitDefEqProofs [go_sem]
      exact rows_cl _ _
    have hij6 : ¬ (j5 : Int) < (i5 : Int) := by omega
    have hl5 : i5 < j5 := scans_ltE hi5 hj5 (by omega) (by omega)
    rw [if_neg hij5] at q6
    have hin5 : i5 < n := by omega
    have hjn5 : j5 < n := by omega
    have gx := rows_get (d := f) (j := i5) (by omega) (by omega)
    have gy := rows_get (d := f) (j := j5) (by omega) (by omega)
    have hsw := rows_swp f i5 j5
    have wi : IntKind.i64.wrap ((i5 : Int) + 1) = (i5 : Int) + 1 := w64 (by omega) (by omega)
    have wj : IntKind.i64.wrap ((j5 : Int) - 1) = ((j5 - 1 : Nat) : Int) := by rw [w64 (by omega) (by omega)]; omega
    refine awp_of ?_
    simp +decide -dsimp -implicitDefEqProofs [go_sem, hij6, hle, hin5, hjn5, gx, gy, rRow_len, rRow_take, rRow_drop, rows_set_len, rows_set_drop, wi, wj]
    rw [hsw]
    refine next_of (i5 + 1, j5 - 1, swp f i5 j5) ⟨by show a + 1 ≤ i5 + 1; omega, by show i5 + 1 ≤ j5 - 1 + 1; omega, by show j5 - 1 < b; omega, by show (swp f i5 j5).size = n; rw [swp_size, q4], okP_swp q5 (by omega) (by omega), q6⟩ (by show j5 - 1 + 1 - (i5 + 1) < j + 1 - i; omega) (cut_of (by simp) ?_)
    simp +decide -dsimp -implicitDefEqProofs [go_sem]
    exact rows_cl _ _
  rintro s _
  refine awp_of ?_
  simp +decide -dsimp -implicitDefEqProofs [go_sem]
  exact rows_cl _ _
end Go.Ab
