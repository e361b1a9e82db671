/- A layer of abstract values over the model, and what is proved with it: part RA. -/
import Derived.Test.YtpknaffdaemlbaaGreatDoorOX
import Derived.Test.YtpknaffdaemlbaaGreatDoorCX
import Derived.Test.YtpknaffdaemlbaaGreatDoorAA
import Derived.Test.YtpknaffdaemlbaaGreatDoorK3
import Derived.Test.YtpknaffdaemlbaaGreatDoorW8
namespace Go.Ab
open Go Go.Proofs
def c69 : AFn := ⟨(sq [(ox 2 (.mov (.v .nils)))] (.seq (sq [(mv 3 0), (ox 4 (.eqnil false (.t 3)))] (cd 4 (sq [(ox 2 (.mov (.v .nils)))] .ret) .skip)) (sq [(ox 5 (.bslice 88 1 true [])), (mv 6 0), (ox 7 (.append 88 1 8 (.t 5) (.t 6))), (mv 2 7)] .ret))), 8, [(.tmp 2)]⟩
theorem c69_ok : compileF Tryz.prog [5] 69 = some c69 := by kernel_rfl
def c8 : AFn := ⟨(sq [(ox 4 (mb false))] (sq [(mv 12 0), (ox 13 (.build [.nils, (.int .i64 0)] [(0, (1, (.t 12)))])), (ox 14 (.box 25 (.t 13))), (mv 5 14)] (sq [(ox 15 (fc 12 [])), (mv 6 15)] (.seq (sq [(mv 16 6), (ox 17 (.ext (.pnil false) [(.t 16)]))] (cd 17 (sq [(ox 4 (mb false))] .ret) .skip)) (.seq (sq [(mv 18 5), (ox 19 (fc 13 [(.t 18), (iv 4)])), (mv 7 19)] (.block 0 (.loop (.seq (sq [(mv 20 7), (ox 21 (b1 .gtr 20 0))] (cd 21 .skip (.exit 0))) (.seq (.block 1 (.ops [(mv 24 6), (mv 25 5), (mv 26 5), (ox 27 (fc 15 [(.t 26)])), (mv 28 5), (ox 29 (fc 13 [(.t 28), (iv 9)])), (ox 30 (.bin .add (iv 1) (.t 29))), (ox 31 (fc 17 [(.t 25), (.t 27), (.t 30)])), (ox 32 (fc 18 [(.t 24), (.t 31)]))])) (.ops [(mv 22 7), (ox 23 (b1 .sub 22 1)), (mv 7 23)])))))) (sq [(mv 33 6), (ox 34 (fc 14 [(.t 33)]))] (sq [(mv 35 6), (ox 36 (fc 34 [(.t 35)])), (ox 37 (.bslice 26 1 true [(.t 36)])), (mv 8 37)] (.seq (sq [(mv 38 5), (ox 39 (fc 13 [(.t 38), (iv 8)])), (mv 9 39)] (.block 2 (.loop (.seq (sq [(mv 40 9), (ox 41 (b1 .gtr 40 0))] (cd 41 .skip (.exit 2))) (.seq (.block 3 (sq [(ox 10 (.mov (iv 0)))] (.seq (sq [(mv 44 5), (ox 45 (fc 13 [(.t 44), (iv 3)])), (ox 46 (b1 .eql 45 0))] (cd 46 (.ops [(mv 47 6), (mv 48 5), (ox 49 (fc 15 [(.t 48)])), (ox 50 (fc 16 [(.t 47), (.t 49)])), (mv 10 50)]) (.ops [(mv 51 6), (mv 52 5), (mv 53 5), (ox 54 (fc 15 [(.t 53)])), (mv 55 5), (ox 56 (fc 13 [(.t 55), (iv 9)])), (ox 57 (.bin .add (iv 1) (.t 56))), (ox 58 (fc 17 [(.t 52), (.t 54), (.t 57)])), (ox 59 (fc 18 [(.t 51), (.t 58)])), (mv 10 59)]))) (sq [(mv 60 10), (ox 61 (b1 .eql 60 0))] (cd 61 (.ops [(mv 62 8), (mv 63 6), (ox 64 (fc 34 [(.t 63)])), (ox 65 (.bslice 26 1 false [(.t 64)])), (ox 66 (.append 26 1 8 (.t 62) (.t 65))), (mv 8 66)]) .skip))))) (.ops [(mv 42 9), (ox 43 (b1 .sub 42 1)), (mv 9 43)])))))) (.seq (sq [(mv 67 6), (ox 68 (fc 32 [(.t 67)])), (mv 69 8), (ox 70 (.len .sl (.t 69))), (ox 71 (b1 .sub 70 1)), (ox 72 (b2 .neq 68 71))] (cd 72 (sq [(ox 4 (mb false))] .ret) .skip)) (sq [(mv 73 6), (mv 74 1), (ox 75 (fc 19 [(.t 73), (.t 74)]))] (sq [(mv 76 8), (mv 77 1), (mv 78 8), (ox 79 (.len .sl (.t 78))), (ox 80 (b1 .sub 79 1)), (ox 81 (.ext .least [(.t 77), (.t 80)])), (ox 82 (.ext .most [(iv 0), (.t 81)])), (ox 83 (.iaddr none 1 (.t 76) (.t 82))), (ox 84 (ld 83)), (mv 11 84)] (sq [(mv 85 11), (ox 86 (.ext (.pnil true) [(.t 85)])), (mv 87 86), (ot 88 (.mov (.t 6)) 87), (ot 89 (fc 32 [(.t 88)]) 87), (ot 90 (b1 .eql 89 0) 87), (ox 91 (.pick (.t 87) (.t 90) (.v (.bool false)))), (mv 92 91), (ot 93 (.mov (.t 6)) 92), (ot 94 (fc 24 [(.t 93)]) 92), (ot 95 (.mov (.t 11)) 92), (ot 96 (fc 24 [(.t 95)]) 92), (ot 97 (fc 23 [(.t 94), (.t 96)]) 92), (ox 98 (.pick (.t 92) (.t 97) (.v (.bool false)))), (mv 99 98), (ot 100 (.mov (.t 6)) 99), (ot 101 (fc 28 [(.t 100)]) 99), (ot 102 (.mov (.t 11)) 99), (ot 103 (fc 28 [(.t 102)]) 99), (ot 104 (fc 33 [(.t 101), (.t 103)]) 99), (ox 105 (.pick (.t 99) (.t 104) (.v (.bool false)))), (mv 106 105), (ot 107 (fc 22 []) 106), (ox 108 (.pick (.t 106) (.t 107) (.v (.bool false)))), (mv 4 108)] .ret)))))))))))), 109, [(.tmp 4)]⟩
theorem c8_ok : compileF Tryz.prog [37] 8 = some c8 := by kernel_rfl
end Go.Ab
namespace Go.Ab
open Go Go.Proofs
def c72 : AFn := ⟨(sq [(ox 4 (mb false))] (.seq (sq [(ox 5 (.mov (iv 0)))] (.block 0 (.loop (.seq (sq [(mv 6 5), (mv 7 0), (ox 8 (.len .sl (.t 7))), (ox 9 (b2 .lss 6 8))] (cd 9 .skip (.exit 0))) (.seq (.block 1 (sq [(mv 12 0), (mv 13 5), (ox 14 (.iaddr none 2 (.t 12) (.t 13))), (ox 15 (fa 0 14)), (ox 16 (ld 15)), (mv 17 1), (ox 18 (b2 .eql 16 17))] (cd 18 (sq [(ox 4 (mb true))] .ret) .skip))) (.ops [(mv 10 5), (ox 11 (b1 .add 10 1)), (mv 5 11)])))))) (sq [(ox 4 (mb false))] .ret))), 19, [(.tmp 4)]⟩
theorem c72_ok : compileF Tryz.prog [] 72 = some c72 := by kernel_rfl
def c73 : AFn := ⟨(sq [(ox 3 (.box 127 (.t 1))), (ox 4 (.mov (.v .nils)))] (sq [(ox 5 (.mov (.v .nils)))] (sq [(ox 8 (fa 2 3)), (ox 9 (ld 8)), (mv 6 9)] (.seq (sq [(ox 7 (.mov (iv 0)))] (.block 0 (.loop (.seq (sq [(mv 10 7), (mv 11 0), (ox 12 (.len .sl (.t 11))), (ox 13 (b2 .lss 10 12))] (cd 13 .skip (.exit 0))) (.seq (.block 1 (.seq (.seq (.draw [(mv 16 6), (ox 17 (.un .not (.t 16))), (mv 18 17), (ot 19 (fa 0 3) 18), (ot 20 (fa 0 19) 18), (ot 21 (ld 20) 18), (ot 22 (.mov (.t 0)) 18), (ot 23 (.mov (.t 7)) 18), (ot 24 (.iaddr none 2 (.t 22) (.t 23)) 18), (ot 25 (fa 0 24) 18), (ot 26 (ld 25) 18), (ot 27 (b2 .lss 21 26) 18), (ox 28 (.pick (.t 18) (.t 27) (.v (.bool false))))] [0, 1, 3, 7, 15, 31, 7, 7, 199, 455, 967, 2047, 4095]) (cd 28 (.ops [(mv 29 5), (ox 30 (fa 0 3)), (ox 31 (.load (some 2) (.t 30))), (ox 32 (.bslice 53 2 false [(.t 31)])), (ox 33 (.append 53 2 32 (.t 29) (.t 32))), (mv 5 33), (ox 6 (mb true))]) .skip)) (.seq (.draw [(mv 34 0), (mv 35 7), (ox 36 (.iaddr none 2 (.t 34) (.t 35))), (ox 37 (fa 0 36)), (ox 38 (ld 37)), (ox 39 (fa 0 3)), (ox 40 (fa 0 39)), (ox 41 (ld 40)), (ox 42 (b2 .neq 38 41))] [0, 0, 3, 7, 15, 0, 32, 96, 255]) (cd 42 (.ops [(mv 43 5), (mv 44 0), (mv 45 7), (ox 46 (.iaddr none 2 (.t 44) (.t 45))), (ox 47 (.load (some 2) (.t 46))), (ox 48 (.bslice 53 2 false [(.t 47)])), (ox 49 (.append 53 2 32 (.t 43) (.t 48))), (mv 5 49)]) .skip)))) (.ops [(mv 14 7), (ox 15 (b1 .add 14 1)), (mv 7 15)])))))) (.seq (sq [(mv 50 6), (ox 51 (.un .not (.t 50)))] (cd 51 (.ops [(mv 52 5), (ox 53 (fa 0 3)), (ox 54 (.load (some 2) (.t 53))), (ox 55 (.bslice 53 2 false [(.t 54)])), (ox 56 (.append 53 2 32 (.t 52) (.t 55))), (mv 5 56)]) .skip)) (sq [(mv 57 5), (mv 4 57)] .ret)))))), 58, [(.tmp 4)]⟩
theorem c73_ok : compileF Tryz.prog [] 73 = some c73 := by kernel_rfl
def c74 : AFn := ⟨(sq [(ox 1 (.box 72 (.t 0))), (ox 2 (.mov (.v .nils)))] (sq [(ox 3 (.mov (.v .nils)))] (sq [(ox 10 (.load (some 2) (.t 1))), (ox 11 (fc 76 [(.t 10)])), (mv 4 11)] (.seq (sq [(ox 5 (.mov (iv 0)))] (.block 0 (.loop (.seq (sq [(mv 12 5), (mv 13 4), (ox 14 (.len .sl (.t 13))), (ox 15 (b2 .lss 12 14))] (cd 15 .skip (.exit 0))) (.seq (.block 1 (sq [(mv 19 4), (mv 20 5), (ox 21 (.iaddr none 2 (.t 19) (.t 20))), (ox 22 (.load (some 2) (.t 21))), (ox 23 (fc 118 [(.t 22)])), (mv 18 23), (ox 24 (xt 18 0)), (ox 25 (xt 18 1)), (ox 6 (.alloc 34 [(.str []), (.int .i64 0), .nils, .nils, .nils, .nils, .nils, (.str []), (.int .i64 0), (.str []), (.str []), (.int .i64 0)])), (on (.store (some 12) (.t 6) (.t 24))), (mv 7 25)] (sq [(mv 26 7)] (cd 26 (.ops [(mv 27 3), (ox 28 (.load (some 12) (.t 6))), (ox 29 (.bslice 34 12 false [(.t 28)])), (ox 30 (.append 34 12 208 (.t 27) (.t 29))), (mv 3 30)]) .skip)))) (.ops [(mv 16 5), (ox 17 (b1 .add 16 1)), (mv 5 17)])))))) (.seq (sq [(mv 31 3), (ox 32 (.len .sl (.t 31))), (ox 33 (.mov (iv 0)))] (.block 2 (.loop (sq [(ox 34 (b2 .lss 33 32))] (.seq (cd 34 .skip (.exit 2)) (.seq (.block 3 (sq [(mv 35 33), (mv 8 35)] (sq [(mv 36 8), (mv 9 36)] (.block 4 (.loop (.seq (.seq (.draw [(mv 37 9), (ox 38 (b1 .gtr 37 0)), (mv 39 38), (ot 40 (.mov (.t 3)) 39), (ot 41 (.mov (.t 9)) 39), (ot 42 (.iaddr none 12 (.t 40) (.t 41)) 39), (ot 43 (fa 0 42) 39), (ot 44 (ld 43) 39), (ot 45 (.mov (.t 3)) 39), (ot 46 (.mov (.t 9)) 39), (ot 47 (b1 .sub 46 1) 39), (ot 48 (.iaddr none 12 (.t 45) (.t 47)) 39), (ot 49 (fa 0 48) 39), (ot 50 (ld 49) 39), (ot 51 (fc 119 [(.t 44), (.t 50)]) 39), (ot 52 (b1 .lss 51 0) 39), (ox 53 (.pick (.t 39) (.t 52) (.v (.bool false))))] [0, 1, 3, 7, 7, 31, 63, 127, 7, 7, 519, 1799, 3847, 7943, 16383, 32767, 65535]) (cd 53 .skip (.exit 4))) (.seq (.block 5 (.draw [(mv 56 3), (mv 57 9), (mv 58 3), (mv 59 9), (ox 60 (b1 .sub 59 1)), (mv 61 3), (mv 62 9), (ox 63 (b1 .sub 62 1)), (ox 64 (.iaddr none 12 (.t 61) (.t 63))), (ox 65 (.load (some 12) (.t 64))), (mv 66 3), (mv 67 9), (ox 68 (.iaddr none 12 (.t 66) (.t 67))), (ox 69 (.load (some 12) (.t 68))), (ox 70 (.iaddr none 12 (.t 56) (.t 57))), (on (.store (some 12) (.t 70) (.t 65))), (ox 71 (.iaddr none 12 (.t 58) (.t 60))), (on (.store (some 12) (.t 71) (.t 69)))] [0, 0, 0, 0, 8, 0, 0, 64, 224, 480, 0, 0, 3072, 7168, 16355, 32739, 65535, 131071])) (.ops [(mv 54 9), (ox 55 (b1 .sub 54 1)), (mv 9 55)])))))))) (.ops [(ox 72 (b1 .add 33 1)), (mv 33 72)]))))))) (sq [(mv 73 3), (mv 2 73)] .ret)))))), 74, [(.tmp 2)]⟩
theorem c74_ok : compileF Tryz.prog [] 74 = some c74 := by kernel_rfl
def c75 : AFn := ⟨(sq [(ox 1 (.box 72 (.t 0))), (ox 2 (.mov (.v .nils)))] (sq [(ox 3 (.mov (.v .nils)))] (sq [(ox 8 (.load (some 2) (.t 1))), (ox 9 (fc 76 [(.t 8)])), (mv 4 9)] (.seq (sq [(ox 5 (.mov (iv 0)))] (.block 0 (.loop (.seq (sq [(mv 10 5), (mv 11 4), (ox 12 (.len .sl (.t 11))), (ox 13 (b2 .lss 10 12))] (cd 13 .skip (.exit 0))) (.seq (.block 1 (sq [(mv 17 4), (mv 18 5), (ox 19 (.iaddr none 2 (.t 17) (.t 18))), (ox 20 (.load (some 2) (.t 19))), (ox 21 (fc 118 [(.t 20)])), (mv 16 21), (ox 22 (xt 16 0)), (ox 23 (xt 16 1)), (ox 6 (.alloc 34 [(.str []), (.int .i64 0), .nils, .nils, .nils, .nils, .nils, (.str []), (.int .i64 0), (.str []), (.str []), (.int .i64 0)])), (on (.store (some 12) (.t 6) (.t 22))), (mv 7 23)] (sq [(mv 24 7), (ox 25 (.un .not (.t 24)))] (cd 25 (.ops [(mv 26 3), (mv 27 4), (mv 28 5), (ox 29 (.iaddr none 2 (.t 27) (.t 28))), (ox 30 (fa 0 29)), (ox 31 (ld 30)), (ox 32 (.bslice 9 1 false [(.t 31)])), (ox 33 (.append 9 1 16 (.t 26) (.t 32))), (mv 3 33)]) .skip)))) (.ops [(mv 14 5), (ox 15 (b1 .add 14 1)), (mv 5 15)])))))) (sq [(mv 34 3), (mv 2 34)] .ret))))), 35, [(.tmp 2)]⟩
theorem c75_ok : compileF Tryz.prog [] 75 = some c75 := by kernel_rfl
def c76 : AFn := ⟨(sq [(ox 1 (.box 72 (.t 0))), (ox 2 (.mov (.v .nils)))] (sq [(ox 5 (fa 0 1)), (ox 6 (ld 5)), (mv 3 6)] (.seq (sq [(ox 4 (.mov (iv 0)))] (.block 0 (.loop (.seq (sq [(mv 7 4), (ox 8 (fa 1 1)), (ox 9 (ld 8)), (ox 10 (.len .sl (.t 9))), (ox 11 (b2 .lss 7 10))] (cd 11 .skip (.exit 0))) (.seq (.block 1 (.ops [(mv 14 3), (ox 15 (fa 1 1)), (ox 16 (ld 15)), (mv 17 4), (ox 18 (.iaddr none 3 (.t 16) (.t 17))), (ox 19 (.load (some 3) (.t 18))), (ox 20 (fc 73 [(.t 14), (.t 19)])), (mv 3 20)])) (.ops [(mv 12 4), (ox 13 (b1 .add 12 1)), (mv 4 13)])))))) (sq [(mv 21 3), (mv 2 21)] .ret)))), 22, [(.tmp 2)]⟩
theorem c76_ok : compileF Tryz.prog [] 76 = some c76 := by kernel_rfl
def c42 : AFn := ⟨(sq [(ox 2 (.box 72 (.t 0))), (ox 4 (.alloc 72 [.nils, .nils]))] (sq [(ox 7 (fa 0 2)), (ox 8 (ld 7)), (mv 5 8)] (.seq (sq [(ox 6 (.mov (iv 0)))] (.block 0 (.loop (.seq (sq [(mv 9 6), (ox 10 (fa 1 2)), (ox 11 (ld 10)), (ox 12 (.len .sl (.t 11))), (ox 13 (b2 .lss 9 12)), (mv 14 13), (ot 15 (.mov (.t 6)) 14), (ot 16 (.mov (.t 1)) 14), (ot 17 (b2 .lss 15 16) 14), (ox 18 (.pick (.t 14) (.t 17) (.v (.bool false))))] (cd 18 .skip (.exit 0))) (.seq (.block 1 (.ops [(mv 21 5), (ox 22 (fa 1 2)), (ox 23 (ld 22)), (mv 24 6), (ox 25 (.iaddr none 3 (.t 23) (.t 24))), (ox 26 (.load (some 3) (.t 25))), (ox 27 (fc 73 [(.t 21), (.t 26)])), (mv 5 27)])) (.ops [(mv 19 6), (ox 20 (b1 .add 19 1)), (mv 6 20)])))))) (sq [(mv 28 5), (ox 29 (.build [.nils, .nils] [(0, (1, (.t 28)))])), (on (.store (some 2) (.t 4) (.t 29)))] .ret)))), 30, [(.cell 4 (some 2))]⟩
theorem c42_ok : compileF Tryz.prog [] 42 = some c42 := by kernel_rfl
def c120 : AFn := ⟨(sq [(ox 2 (.box 72 (.t 0))), (ox 3 (.box 127 (.t 1))), (ox 4 (.alloc 72 [.nils, .nils]))] (.seq (.draw [(ox 5 (fa 1 2)), (ox 6 (ld 5)), (ox 7 (.append 127 3 40 (.v .nils) (.t 6))), (ox 8 (.load (some 3) (.t 3))), (ox 9 (.bslice 127 3 false [(.t 8)])), (ox 10 (.append 127 3 40 (.t 7) (.t 9))), (ox 11 (fa 1 2)), (on (.store none (.t 11) (.t 10)))] [0, 1, 3, 0, 8, 31, 63, 127]) (sq [(ox 12 (.load (some 2) (.t 2))), (on (.store (some 2) (.t 4) (.t 12)))] .ret))), 13, [(.cell 4 (some 2))]⟩
theorem c120_ok : compileF Tryz.prog [] 120 = some c120 := by kernel_rfl
def c81 : AFn := ⟨(sq [(ox 1 (.box 72 (.t 0))), (ox 2 (.alloc 72 [.nils, .nils]))] (sq [(ox 3 (.load (some 2) (.t 1))), (ox 4 (fa 1 1)), (ox 5 (ld 4)), (ox 6 (.len .sl (.t 5))), (ox 7 (fc 42 [(.t 3), (.t 6)])), (on (.store (some 2) (.t 2) (.t 7)))] .ret)), 8, [(.cell 2 (some 2))]⟩
theorem c81_ok : compileF Tryz.prog [] 81 = some c81 := by kernel_rfl
def c118 : AFn := ⟨(sq [(ox 1 (.box 53 (.t 0))), (ox 2 (.alloc 34 [(.str []), (.int .i64 0), .nils, .nils, .nils, .nils, .nils, (.str []), (.int .i64 0), (.str []), (.str []), (.int .i64 0)])), (ox 3 (mb false))] (sq [(ox 9 (fa 1 1)), (ox 10 (ld 9)), (ox 11 (fc 156 [(.t 10)])), (mv 8 11), (ox 12 (xt 8 0)), (ox 13 (xt 8 1)), (ox 4 (.alloc 34 [(.str []), (.int .i64 0), .nils, .nils, .nils, .nils, .nils, (.str []), (.int .i64 0), (.str []), (.str []), (.int .i64 0)])), (on (.store (some 12) (.t 4) (.t 12))), (mv 5 13)] (.seq (sq [(mv 14 5), (ox 15 (b1 .neq 14 0))] (cd 15 (sq [(ox 16 (.load (some 12) (.t 4))), (on (.store (some 12) (.t 2) (.t 16))), (ox 3 (mb false))] .ret) .skip)) (sq [(ox 18 (fa 0 4)), (ox 19 (ld 18)), (ox 20 (fc 71 [(.t 19)])), (mv 17 20), (ox 21 (xt 17 0)), (ox 22 (xt 17 1)), (mv 6 21), (mv 7 22)] (.seq (sq [(mv 23 6), (ox 24 (fa 0 1)), (ox 25 (ld 24)), (ox 26 (b2 .neq 23 25))] (cd 26 (sq [(ox 27 (.build [(.str []), (.int .i64 0), .nils, .nils, .nils, .nils, .nils, (.str []), (.int .i64 0), (.str []), (.str []), (.int .i64 0)] [])), (on (.store (some 12) (.t 2) (.t 27))), (ox 3 (mb false))] .ret) .skip)) (sq [(ox 28 (.load (some 12) (.t 4))), (on (.store (some 12) (.t 2) (.t 28))), (ox 3 (mb true))] .ret)))))), 29, [(.cell 2 (some 12)), (.tmp 3)]⟩
theorem c118_ok : compileF Tryz.prog [] 118 = some c118 := by kernel_rfl
def c78 : AFn := ⟨(sq [(ox 2 (.box 72 (.t 0))), (ox 3 (.box 34 (.t 1))), (ox 4 (.alloc 72 [.nils, .nils])), (ox 5 (.mov (iv 0)))] (sq [(ox 12 (.load (some 12) (.t 3))), (ox 13 (fc 70 [(.t 12)])), (mv 11 13), (ox 14 (xt 11 0)), (ox 15 (xt 11 1)), (mv 6 14), (mv 7 15)] (.seq (sq [(mv 16 7), (ox 17 (b1 .neq 16 0))] (cd 17 (sq [(ox 18 (.load (some 2) (.t 2))), (on (.store (some 2) (.t 4) (.t 18))), (ox 5 (.mov (iv 260)))] .ret) .skip)) (sq [(ox 20 (fa 0 3)), (ox 21 (ld 20)), (ox 22 (fc 71 [(.t 21)])), (mv 19 22), (ox 23 (xt 19 0)), (ox 24 (xt 19 1)), (mv 8 23), (mv 9 24)] (sq [(ox 25 (.load (some 2) (.t 2))), (ox 26 (fc 76 [(.t 25)])), (mv 10 26)] (.seq (sq [(mv 27 10), (ox 28 (.len .sl (.t 27))), (ox 29 (b1 .geq 28 512)), (mv 30 29), (ot 31 (.mov (.t 10)) 30), (ot 32 (.mov (.t 8)) 30), (ot 33 (fc 72 [(.t 31), (.t 32)]) 30), (ot 34 (.un .not (.t 33)) 30), (ox 35 (.pick (.t 30) (.t 34) (.v (.bool false))))] (cd 35 (sq [(ox 36 (.load (some 2) (.t 2))), (on (.store (some 2) (.t 4) (.t 36))), (ox 5 (.mov (iv 261)))] .ret) .skip)) (sq [(ox 37 (.load (some 2) (.t 2))), (mv 38 8), (mv 39 6), (ox 40 (.build [(.str []), (.str [])] [(0, (1, (.t 38))), (1, (1, (.t 39)))])), (ox 41 (.build [(.str []), (.str []), (.bool false)] [(0, (2, (.t 40)))])), (ox 42 (fc 120 [(.t 37), (.t 41)])), (on (.store (some 2) (.t 4) (.t 42))), (ox 5 (.mov (iv 0)))] .ret))))))), 43, [(.cell 4 (some 2)), (.tmp 5)]⟩
theorem c78_ok : compileF Tryz.prog [] 78 = some c78 := by kernel_rfl
def c79 : AFn := ⟨(sq [(ox 2 (.box 72 (.t 0))), (ox 4 (.alloc 72 [.nils, .nils])), (ox 5 (.mov (iv 0)))] (sq [(mv 9 1), (ox 10 (fc 71 [(.t 9)])), (mv 8 10), (ox 11 (xt 8 0)), (ox 12 (xt 8 1)), (mv 6 11), (mv 7 12)] (.seq (sq [(mv 13 7), (ox 14 (b1 .neq 13 0)), (mv 15 14), (of 16 (.load (some 2) (.t 2)) 15), (of 17 (fc 76 [(.t 16)]) 15), (of 18 (.mov (.t 6)) 15), (of 19 (fc 72 [(.t 17), (.t 18)]) 15), (of 20 (.un .not (.t 19)) 15), (ox 21 (.pick (.t 15) (.v (.bool true)) (.t 20)))] (cd 21 (sq [(ox 22 (.load (some 2) (.t 2))), (on (.store (some 2) (.t 4) (.t 22))), (ox 5 (.mov (iv 262)))] .ret) .skip)) (sq [(ox 23 (.load (some 2) (.t 2))), (mv 24 6), (ox 25 (.build [(.str []), (.str [])] [(0, (1, (.t 24)))])), (ox 26 (.build [(.str []), (.str []), (.bool false)] [(0, (2, (.t 25))), (2, (1, (.v (.bool true))))])), (ox 27 (fc 120 [(.t 23), (.t 26)])), (on (.store (some 2) (.t 4) (.t 27))), (ox 5 (.mov (iv 0)))] .ret)))), 28, [(.cell 4 (some 2)), (.tmp 5)]⟩
theorem c79_ok : compileF Tryz.prog [] 79 = some c79 := by kernel_rfl
def c80 : AFn := ⟨(sq [(ox 2 (.box 72 (.t 0))), (ox 4 (.alloc 72 [.nils, .nils])), (ox 5 (.mov (iv 0)))] (sq [(ox 8 (.load (some 2) (.t 2))), (ox 9 (fc 75 [(.t 8)])), (mv 6 9)] (.seq (sq [(ox 7 (.mov (iv 0)))] (.block 0 (.loop (.seq (sq [(mv 10 7), (mv 11 6), (ox 12 (.len .sl (.t 11))), (ox 13 (b2 .lss 10 12))] (cd 13 .skip (.exit 0))) (.seq (.block 1 (sq [(mv 16 6), (mv 17 7), (ox 18 (.iaddr none 1 (.t 16) (.t 17))), (ox 19 (ld 18)), (mv 20 1), (ox 21 (b2 .eql 19 20))] (cd 21 (sq [(ox 22 (.load (some 2) (.t 2))), (mv 23 1), (ox 24 (.build [(.str []), (.str [])] [(0, (1, (.t 23)))])), (ox 25 (.build [(.str []), (.str []), (.bool false)] [(0, (2, (.t 24))), (2, (1, (.v (.bool true))))])), (ox 26 (fc 120 [(.t 22), (.t 25)])), (on (.store (some 2) (.t 4) (.t 26))), (ox 5 (.mov (iv 0)))] .ret) .skip))) (.ops [(mv 14 7), (ox 15 (b1 .add 14 1)), (mv 7 15)])))))) (sq [(ox 27 (.load (some 2) (.t 2))), (on (.store (some 2) (.t 4) (.t 27))), (ox 5 (.mov (iv 262)))] .ret)))), 28, [(.cell 4 (some 2)), (.tmp 5)]⟩
theorem c80_ok : compileF Tryz.prog [] 80 = some c80 := by kernel_rfl
def c82 : AFn := ⟨(sq [(ox 2 (.box 72 (.t 0))), (ox 4 (.alloc 34 [(.str []), (.int .i64 0), .nils, .nils, .nils, .nils, .nils, (.str []), (.int .i64 0), (.str []), (.str []), (.int .i64 0)])), (ox 5 (mb false))] (sq [(ox 8 (.load (some 2) (.t 2))), (ox 9 (fc 74 [(.t 8)])), (mv 6 9)] (.seq (sq [(ox 7 (.mov (iv 0)))] (.block 0 (.loop (.seq (sq [(mv 10 7), (mv 11 6), (ox 12 (.len .sl (.t 11))), (ox 13 (b2 .lss 10 12))] (cd 13 .skip (.exit 0))) (.seq (.block 1 (sq [(mv 16 6), (mv 17 7), (ox 18 (.iaddr none 12 (.t 16) (.t 17))), (ox 19 (fa 0 18)), (ox 20 (ld 19)), (mv 21 1), (ox 22 (b2 .eql 20 21))] (cd 22 (sq [(mv 23 6), (mv 24 7), (ox 25 (.iaddr none 12 (.t 23) (.t 24))), (ox 26 (.load (some 12) (.t 25))), (on (.store (some 12) (.t 4) (.t 26))), (ox 5 (mb true))] .ret) .skip))) (.ops [(mv 14 7), (ox 15 (b1 .add 14 1)), (mv 7 15)])))))) (sq [(ox 27 (.build [(.str []), (.int .i64 0), .nils, .nils, .nils, .nils, .nils, (.str []), (.int .i64 0), (.str []), (.str []), (.int .i64 0)] [])), (on (.store (some 12) (.t 4) (.t 27))), (ox 5 (mb false))] .ret)))), 28, [(.cell 4 (some 12)), (.tmp 5)]⟩
theorem c82_ok : compileF Tryz.prog [] 82 = some c82 := by kernel_rfl
def c119 : AFn := ⟨(sq [(ox 4 (.mov (iv 0)))] (sq [(mv 5 0), (ox 6 (fc 140 [(.t 5), (.v (.str [47]))])), (mv 7 1), (ox 8 (fc 140 [(.t 7), (.v (.str [47]))])), (ox 9 (fc 157 [(.t 6), (.t 8)])), (mv 4 9)] .ret)), 10, [(.tmp 4)]⟩
theorem c119_ok : compileF Tryz.prog [] 119 = some c119 := by kernel_rfl
def c40 : AFn := ⟨(sq [(ox 3 (.box 72 (.t 1))), (ox 4 (mb false))] (.seq (.draw [(mv 5 0), (ox 6 (fc 28 [(.t 5)])), (ox 7 (.load (some 2) (.t 3))), (ox 8 (fc 74 [(.t 7)])), (ox 9 (fc 33 [(.t 6), (.t 8)])), (mv 10 9), (ot 11 (.mov (.t 0)) 10), (ot 12 (fc 29 [(.t 11)]) 10), (ot 13 (.load (some 2) (.t 3)) 10), (ot 14 (fc 75 [(.t 13)]) 10), (ot 15 (fc 35 [(.t 12), (.t 14)]) 10), (ox 16 (.pick (.t 10) (.t 15) (.v (.bool false)))), (mv 17 16), (ot 18 (.mov (.t 0)) 17), (ot 19 (fc 24 [(.t 18)]) 17), (ot 20 (.load (some 2) (.t 3)) 17), (ot 21 (fc 76 [(.t 20)]) 17), (ot 22 (fc 23 [(.t 19), (.t 21)]) 17), (ox 23 (.pick (.t 17) (.t 22) (.v (.bool false)))), (mv 24 23), (ot 25 (.mov (.t 0)) 24), (ot 26 (fc 32 [(.t 25)]) 24), (ot 27 (fa 1 3) 24), (ot 28 (ld 27) 24), (ot 29 (.len .sl (.t 28)) 24), (ot 30 (b2 .eql 26 29) 24), (ox 31 (.pick (.t 24) (.t 30) (.v (.bool false)))), (mv 4 31)] [0, 1, 0, 7, 15, 31, 63, 127, 63, 511, 1023, 2047, 4095, 8191, 16383, 8191, 65535, 131071, 262143, 524287, 1048575, 2097151, 1048575, 5242879, 13631487, 33554431, 67108863, 134217727]) .ret)), 32, [(.tmp 4)]⟩
theorem c40_ok : compileF Tryz.prog [] 40 = some c40 := by kernel_rfl
def c157 : AFn := ⟨(sq [(ox 4 (.mov (iv 0)))] (.seq (sq [(ox 5 (.mov (iv 0)))] (.block 0 (.loop (.seq (sq [(mv 6 5), (mv 7 0), (ox 8 (.len .sl (.t 7))), (ox 9 (b2 .lss 6 8)), (mv 10 9), (ot 11 (.mov (.t 5)) 10), (ot 12 (.mov (.t 1)) 10), (ot 13 (.len .sl (.t 12)) 10), (ot 14 (b2 .lss 11 13) 10), (ox 15 (.pick (.t 10) (.t 14) (.v (.bool false))))] (cd 15 .skip (.exit 0))) (.seq (.block 1 (.seq (.draw [(mv 18 0), (mv 19 5), (ox 20 (.iaddr none 1 (.t 18) (.t 19))), (ox 21 (ld 20)), (mv 22 1), (mv 23 5), (ox 24 (.iaddr none 1 (.t 22) (.t 23))), (ox 25 (ld 24)), (ox 26 (b2 .neq 21 25))] [0, 0, 3, 7, 0, 0, 48, 112, 255]) (cd 26 (.seq (.draw [(mv 27 0), (mv 28 5), (ox 29 (.iaddr none 1 (.t 27) (.t 28))), (ox 30 (ld 29)), (mv 31 1), (mv 32 5), (ox 33 (.iaddr none 1 (.t 31) (.t 32))), (ox 34 (ld 33)), (ox 35 (fc 192 [(.t 30), (.t 34)])), (mv 4 35)] [0, 0, 3, 7, 0, 0, 48, 112, 255, 511]) .ret) .skip))) (.ops [(mv 16 5), (ox 17 (b1 .add 16 1)), (mv 5 17)])))))) (.seq (.block 2 (sq [(mv 37 0), (ox 38 (.len .sl (.t 37))), (mv 39 1), (ox 40 (.len .sl (.t 39))), (ox 41 (b2 .lss 38 40)), (mv 36 41)] (cd 36 (sq [(ox 4 (.mov (iv (-1))))] .ret) (sq [(mv 43 0), (ox 44 (.len .sl (.t 43))), (mv 45 1), (ox 46 (.len .sl (.t 45))), (ox 47 (b2 .gtr 44 46)), (mv 42 47)] (cd 42 (sq [(ox 4 (.mov (iv 1)))] .ret) .skip))))) (sq [(ox 4 (.mov (iv 0)))] .ret)))), 48, [(.tmp 4)]⟩
theorem c157_ok : compileF Tryz.prog [] 157 = some c157 := by kernel_rfl
end Go.Ab
namespace Go.Ab
open Go Go.Proofs
theorem acalls_WU {P : Program} {own : List Nat} {f : Nat} {fn : AFn} {xs : List AV} {H : List AObj} (n : Nat) (R : AV → List AObj → Prop) (hf : compileF P own f = some fn)
    (h : awpF P H.length fn.body (retW H.length fn.res R) ⟨xs ++ List.replicate (fn.nt - xs.length) .junk, H ++ List.replicate n .unborn⟩) : ACallsR P f xs H R :=
  acalls_WA R hf (awp_wk (Wk.pushN n) (awpF_sound h))
theorem own0_raw {P : Program} {f e sz : Nat} {R : AV → List AObj → Prop} (h : ∀ a cp, ACallsR P f [.raw (.slice a 0 cp)] [.reg e sz []] R) : ACallsR P f [.own 0 0] [.reg e sz []] R := by
  refine ⟨(h none 0).1, fun c vs hH hr hv => ?_⟩
  simp only [Vals] at hv
  obtain ⟨v, vs', rfl, hv, rfl⟩ := hv
  obtain ⟨a, cp, rfl⟩ := own_slice hr hv (by rw [hH]; rfl) rfl
  exact (h a cp).2 c _ hH hr (by simp only [Vals]; exact ⟨_, _, rfl, by simp [Val], rfl⟩)
set_option maxRecDepth 20000 in
theorem CloneW_c (pend : List Wr) (hp : pend.length < 1000000) : ACallsR Tryz.prog 69 [.own 0 pend.length] [.reg 88 1 (pend.map wRow)] (fun v G => v = .own 1 pend.length ∧ G = [.reg 88 1 (pend.map wRow), .reg 88 1 (pend.map wRow)]) := by
  cases pend with
  | nil =>
    refine own0_raw fun a cp => ?_
    refine acalls_W _ c69_ok ?_
    unfold c69
    cases a with
    | none =>
      simp +decide -dsimp -implicitDefEqProofs [go_sem]
      refine endW_of _ _ (Wk.nilT 2 88 1 rfl (by simp)) ?_
      simp +decide -dsimp -implicitDefEqProofs [go_sem, packR]
    | some a =>
      simp +decide -dsimp -implicitDefEqProofs [go_sem]
      refine endW_of _ _ (.refl _ _) ?_
      simp +decide -dsimp -implicitDefEqProofs [go_sem, packR]
  | cons w l =>
    refine acalls_W _ c69_ok ?_
    unfold c69
    simp only [List.length_cons] at hp
    simp +decide -dsimp -implicitDefEqProofs [go_sem, maxLen, wRow]
    refine ⟨fun _ _ _ _ h => h ▸ rfl, ⟨by omega, by omega⟩, ?_⟩
    refine endW_of _ _ (.refl _ _) ?_
    simp +decide -dsimp -implicitDefEqProofs [go_sem, packR]
set_option maxRecDepth 20000 in
set_option maxHeartbeats 2000000 in
theorem Copy_c (dur seen : TMap) (pend : List Wr) (hp : pend.length < 1000000) : ACallsR Tryz.prog 34 [.ptr 0 0] (dbO dur seen pend) (fun v G => v = .ptr 4 0 ∧ G = dbO dur seen pend ++ [dbB 5 6 7 pend.length, mO dur, mO seen, .reg 88 1 (pend.map wRow)]) := by
  have hcl := wRows_cl
  have hwr := wRows_ren
  have hsr := smK_renS
  have k1 : ∀ m : TMap, ACalls Tryz.prog 43 [.map 0] [.map (smK .str m), .unborn] (.map 1) [.map (smK .str m), .map (smK .str m)] := fun m => (ACallsR.unbornG 1 (clone_c (smK .str m)) (fun v G h => by rw [h.2]; simp)).one
  have k2 : ACalls Tryz.prog 69 [.own 0 pend.length] [.reg 88 1 (pend.map wRow), .unborn] (.own 1 pend.length) [.reg 88 1 (pend.map wRow), .reg 88 1 (pend.map wRow)] := (ACallsR.unbornG 1 (CloneW_c pend hp) (fun v G h => by rw [h.2]; simp)).one
  refine acalls_WU 3 _ c34_ok ?_
  unfold c34 dbO dbB mO
  simp +decide -dsimp -implicitDefEqProofs [go_sem]
  refine callDE_frame [1, 4] (k1 dur) rfl rfl (by simp) (by simp +decide -dsimp -implicitDefEqProofs [go_sem]) (by simp +decide -dsimp -implicitDefEqProofs [go_sem, hsr]) ?_
  simp +decide -dsimp -implicitDefEqProofs [go_sem, hsr]
  refine callDE_frame [2, 5] (k1 seen) rfl rfl (by simp) (by simp +decide -dsimp -implicitDefEqProofs [go_sem]) (by simp +decide -dsimp -implicitDefEqProofs [go_sem, hsr]) ?_
  simp +decide -dsimp -implicitDefEqProofs [go_sem, hsr]
  refine callDE_frame [3, 6] k2 rfl rfl (by simp) (by simp +decide -dsimp -implicitDefEqProofs [go_sem]) (by simp +decide -dsimp -implicitDefEqProofs [go_sem, hwr]) ?_
  simp +decide -dsimp -implicitDefEqProofs [go_sem, hwr]
  refine endW_of ([.junk, .junk, .ptr 4 0] ++ List.replicate 17 .junk) [dbB 1 2 3 pend.length, mO dur, mO seen, .reg 88 1 (pend.map wRow), dbB 5 6 7 pend.length, mO dur, mO seen, .reg 88 1 (pend.map wRow)] (Wk.ren [0, 1, 2, 3, 7, 4, 5, 6] (by decide) rfl (by decide) (fun j hj => ?_) (fun j m s l hj h => ?_) ?_ ?_) ?_
  · match j, hj with
    | 0, _ => rfl
    | 1, _ => rfl
    | 2, _ => rfl
    | 3, _ => rfl
  · match j, hj with
    | 0, _ => cases h
    | 1, _ => cases h
    | 2, _ => cases h
    | 3, _ => cases h
  · simp +decide -dsimp -implicitDefEqProofs [go_sem, dbB, mO_def, hsr, hwr]
  · simp +decide -dsimp -implicitDefEqProofs [go_sem, rnT]
  · simp +decide -dsimp -implicitDefEqProofs [go_sem, packR, dbB, mO_def]
end Go.Ab
namespace Go.Ab
open Go Go.Proofs
abbrev Ent := List UInt8 × List UInt8
def applyA (w : Wr) : Bool → List Ent → List Ent
  | d, [] => if d = true then [] else [(w.1, w.2.getD [])]
  | d, x :: r => (if d = false ∧ w.1 < x.1 then [(w.1, w.2.getD [])] else []) ++ ((if x.1 = w.1 then [] else [x]) ++ applyA w (d || decide (w.1 < x.1)) r)
def applyL (w : Wr) (l : List Ent) : List Ent := applyA w w.2.isNone l
def ascE (l : List Ent) : Prop := l.Pairwise fun a b => a.1 < b.1
theorem apply_mem (w : Wr) (y : Ent) : ∀ (d : Bool) (l : List Ent), ascE l → (y ∈ applyA w d l ↔ (y ∈ l ∧ y.1 ≠ w.1) ∨ (d = false ∧ y = (w.1, w.2.getD [])))
  | d, [], _ => by cases d <;> simp [applyA]
  | d, x :: r, h => by
    unfold ascE at h
    rw [List.pairwise_cons] at h
    have ih := fun d => apply_mem w y d r h.2
    rw [applyA, List.mem_append, List.mem_append, ih]
    by_cases hx : x.1 = w.1
    · have hlt : ¬ w.1 < x.1 := by rw [hx]; exact List.lt_irrefl _
      rw [if_pos hx, if_neg (fun h => hlt h.2)]
      simp only [List.not_mem_nil, false_or, hlt, decide_false, Bool.or_false, List.mem_cons]
      constructor
      · rintro (⟨h1, h2⟩ | h1)
        · exact .inl ⟨.inr h1, h2⟩
        · exact .inr h1
      · rintro (⟨h1 | h1, h2⟩ | h1)
        · subst h1; exact absurd hx h2
        · exact .inl ⟨h1, h2⟩
        · exact .inr h1
    · rw [if_neg hx]
      by_cases hlt : w.1 < x.1
      · simp only [hlt, and_true, decide_true, Bool.or_true, Bool.true_eq_false, false_and, or_false, List.mem_cons]
        cases d
        · simp only [if_true, List.mem_cons, List.not_mem_nil, or_false, true_and]
          constructor
          · rintro (h1 | h1 | h1)
            · exact .inr h1
            · exact .inl ⟨.inl h1, h1 ▸ hx⟩
            · exact .inl ⟨.inr h1.1, h1.2⟩
          · rintro (⟨h1 | h1, h2⟩ | h1)
            · exact .inr (.inl h1)
            · exact .inr (.inr ⟨h1, h2⟩)
            · exact .inl h1
        · simp only [Bool.true_eq_false, if_false, List.not_mem_nil, or_false, false_or, false_and]
          constructor
          · rintro (h1 | h1)
            · exact ⟨.inl h1, h1 ▸ hx⟩
            · exact ⟨.inr h1.1, h1.2⟩
          · rintro ⟨h1 | h1, h2⟩
            · exact .inl h1
            · exact .inr ⟨h1, h2⟩
      · simp only [hlt, and_false, if_false, decide_false, Bool.or_false, List.not_mem_nil, false_or, List.mem_cons, or_false]
        constructor
        · rintro (h1 | ⟨h1, h2⟩ | h1)
          · exact .inl ⟨.inl h1, h1 ▸ hx⟩
          · exact .inl ⟨.inr h1, h2⟩
          · exact .inr h1
        · rintro (⟨h1 | h1, h2⟩ | h1)
          · exact .inl h1
          · exact .inr (.inl ⟨h1, h2⟩)
          · exact .inr (.inr h1)
theorem apply_asc (w : Wr) : ∀ (d : Bool) (l : List Ent), ascE l → ascE (applyA w d l)
  | d, [], _ => by cases d <;> simp [applyA, ascE]
  | d, x :: r, h => by
    have h0 := h
    unfold ascE at h
    rw [List.pairwise_cons] at h
    have ih := fun d => apply_asc w d r h.2
    have hm := fun d y => apply_mem w y d r h.2
    rw [applyA]
    unfold ascE
    by_cases hx : x.1 = w.1
    · have hlt : ¬ w.1 < x.1 := by rw [hx]; exact List.lt_irrefl _
      rw [if_pos hx, if_neg (fun h => hlt h.2)]
      exact ih _
    · rw [if_neg hx]
      by_cases hlt : w.1 < x.1
      · have h3 : List.Pairwise (fun a b : Ent => a.1 < b.1) ([x] ++ applyA w true r) := by
          rw [List.singleton_append, List.pairwise_cons]
          refine ⟨fun y hy => ?_, ih _⟩
          rcases (hm true y).1 hy with h4 | h4
          · exact h.1 y h4.1
          · exact absurd h4.1 (by simp)
        simp only [hlt, and_true, decide_true, Bool.or_true]
        cases d
        · rw [if_pos rfl, List.singleton_append, List.pairwise_cons]
          refine ⟨fun y hy => ?_, h3⟩
          rcases List.mem_append.1 hy with h4 | h4
          · simp only [List.mem_singleton] at h4; subst h4; exact hlt
          · rcases (hm true y).1 h4 with h5 | h5
            · exact List.lt_trans hlt (h.1 y h5.1)
            · exact absurd h5.1 (by simp)
        · simpa using h3
      · have hgt : x.1 < w.1 := by
          rcases List.le_iff_lt_or_eq.1 (List.not_lt.1 hlt) with h5 | h5
          · exact h5
          · exact absurd h5 hx
        simp only [hlt, and_false, if_false, decide_false, Bool.or_false, List.nil_append, List.singleton_append]
        rw [List.pairwise_cons]
        refine ⟨fun y hy => ?_, ih _⟩
        rcases (hm d y).1 hy with h4 | ⟨_, rfl⟩
        · exact h.1 y h4.1
        · exact hgt
theorem ents_asc {m : TMap} (ho : oneS' m) : ascE (entsL m) := by
  unfold ascE entsL
  rw [List.pairwise_map]
  have h1 : (srtK (ksS m)).Pairwise fun a b => leB a b = true := List.pairwise_mergeSort (fun a b c h k => by
    simp only [leB, decide_eq_true_eq] at h k ⊢; exact List.le_trans h k) (fun a b => by
    simp only [leB, Bool.or_eq_true, decide_eq_true_eq]; exact List.le_total a b) _
  have h2 : (srtK (ksS m)).Nodup := (List.mergeSort_perm _ _).nodup_iff.2 (ksS_nodup ho)
  refine (h1.and h2).imp fun {a b} ⟨h, k⟩ => ?_
  simp only [leB, decide_eq_true_eq] at h
  rcases List.le_iff_lt_or_eq.1 h with h5 | h5
  · exact h5
  · exact absurd h5 k
theorem ascE_ext {l l' : List Ent} (h1 : ascE l) (h2 : ascE l') (h : ∀ x, x ∈ l ↔ x ∈ l') : l = l' :=
  asc_ext (fun _a _b h k => List.lt_irrefl _ (List.lt_trans h k)) h1 h2 h
theorem ents_doW {m : TMap} (ho : oneS' m) (w : Wr) : entsL (doW m w) = applyL w (entsL m) := by
  have hd := one_doW ho w
  refine ascE_ext (ents_asc hd) (apply_asc w _ _ (ents_asc ho)) fun ⟨k, t⟩ => ?_
  show _ ↔ (k, t) ∈ applyA w w.2.isNone (entsL m)
  rw [apply_mem w _ _ _ (ents_asc ho), mem_ents hd, mem_ents ho, get_doW ho]
  obtain ⟨n, o⟩ := w
  cases o with
  | none =>
    simp only [Option.isNone_none, Bool.true_eq_false, false_and, or_false]
    by_cases h : n = k
    · simp [h]
    · have : ¬ k = n := fun e => h e.symm
      simp [h, this]
  | some u =>
    simp only [Option.isNone_some, Option.getD_some, true_and, Prod.mk.injEq]
    by_cases h : n = k
    · subst h; simp [eq_comm]
    · have : ¬ k = n := fun e => h e.symm
      simp [h, this]
end Go.Ab
namespace Go.Ab
open Go Go.Proofs
theorem valB_bd {b : Nat} (hb : b ≤ 10) (l : List UInt8) : (valB b l).natAbs ≤ 300 * 11 ^ l.length := by
  have key : ∀ (n : Nat) (l : List UInt8), l.length = n → (valB b l).natAbs ≤ 300 * 11 ^ n := by
    intro n
    induction n with
    | zero => intro l h; rw [List.eq_nil_of_length_eq_zero h]; simp [valB]
    | succ n ih =>
      intro l h
      obtain ⟨l', c, rfl⟩ : ∃ l' c, l = l' ++ [c] := ⟨l.dropLast, l.getLast (by intro e; subst e; simp at h), (List.dropLast_concat_getLast _).symm⟩
      rw [valB_snoc]
      have h1 := ih l' (by simpa using h)
      have h2 : c.toNat < 256 := c.toNat_lt
      have h3 : 1 ≤ 11 ^ n := Nat.one_le_pow _ _ (by decide)
      have h4 : (valB b l' * (b : Int)).natAbs ≤ 300 * 11 ^ n * 10 := by
        rw [Int.natAbs_mul]
        exact Nat.mul_le_mul h1 (by simpa using hb)
      rw [Nat.pow_succ]
      omega
  exact key _ l rfl
theorem valB_bd10 {b : Nat} (hb : b ≤ 10) {l : List UInt8} (h : l.length ≤ 10) : (valB b l).natAbs ≤ 10000000000000 := by
  have h1 := valB_bd hb l
  have h2 : 11 ^ l.length ≤ 11 ^ 10 := Nat.pow_le_pow_right (by decide) h
  have h3 : (11 : Nat) ^ 10 = 25937424601 := by decide
  omega

set_option maxRecDepth 20000 in
set_option maxHeartbeats 1000000 in
theorem rNumber_c (s : List UInt8) (b : Nat) (hb : b = 8 ∨ b = 10) (hl : s.length < 9223372036854775807) : ACalls Tryz.prog 191 [.str s, .int .i64 b] [] (.int .i64 (refN b s)) [] := by
  have hb10 : b ≤ 10 := by omega
  -- the loop over the digits
  refine acalls_A c191_ok rfl ?_
  unfold c191
  obtain ⟨t, ht⟩ : ∃ t, t = if s.take 1 = [45] then s.drop 1 else s := ⟨_, rfl⟩
  obtain ⟨g, hg⟩ : ∃ g : Int, g = if s.take 1 = [45] then -1 else 1 := ⟨_, rfl⟩
  have hr : refN b s = g * (if t.length ≤ 10 then valB b t else 0) := by rw [refN, ← ht, ← hg]
  have hgb : g = -1 ∨ g = 1 := by rw [hg]; split <;> simp
  have htl : t.length ≤ s.length := by rw [ht]; split <;> simp
  have e45 : (45 : UInt8).toNat = 45 := rfl
  rw [hr]
  refine awp_cut ⟨tmps 40 [(0, .str s), (1, .int .i64 b), (4, .int .i64 0)], []⟩ (awp_of ?_) (awp_cut ⟨tmps 40 [(0, .str s), (1, .int .i64 b), (4, .int .i64 0), (5, .int .i64 1), (6, .int .i64 0)], []⟩ (awp_of ?_)
    (awp_cut ⟨tmps 40 [(0, .str t), (1, .int .i64 b), (4, .int .i64 0), (5, .int .i64 g), (6, .int .i64 0)], []⟩ (awp_of ?_) (awp_of ?_)))
  · simp +decide -dsimp -implicitDefEqProofs [go_sem]
    refine cutE_of (by simp) ?_
    simp +decide -dsimp -implicitDefEqProofs [go_sem]
  · simp +decide -dsimp -implicitDefEqProofs [go_sem]
    refine cutE_of (by simp) ?_
    simp +decide -dsimp -implicitDefEqProofs [go_sem]
  · cases s with
    | nil =>
      have h1 : t = [] := by rw [ht]; rfl
      have h2 : g = 1 := by rw [hg]; rfl
      rw [h1, h2]
      simp +decide -dsimp -implicitDefEqProofs [go_sem]
      refine cutE_of (by simp) ?_
      simp +decide -dsimp -implicitDefEqProofs [go_sem]
    | cons c r =>
      by_cases h : c = 45
      · subst h
        have h1 : t = r := by rw [ht]; simp
        have h2 : g = -1 := by rw [hg]; simp
        rw [h1, h2]
        simp +decide -dsimp -implicitDefEqProofs [go_sem]
        refine cutE_of (by simp) ?_
        simp +decide -dsimp -implicitDefEqProofs [go_sem]
      · have h1 : t = c :: r := by rw [ht]; simp [h]
        have h2 : g = 1 := by rw [hg]; simp [h]
        have h3 : ¬ (c.toNat : Int) = 45 := fun e => h (UInt8.toNat_inj.1 (by omega))
        rw [h1, h2]
        simp +decide -dsimp -implicitDefEqProofs [go_sem, h3]
        refine cutE_of (by simp) ?_
        simp +decide -dsimp -implicitDefEqProofs [go_sem]
  by_cases h10 : t.length ≤ 10
  rotate_left
  · have h10' : ¬ (t.length : Int) ≤ 10 := by omega
    rw [if_neg h10]
    have w0 : IntKind.i64.wrap 0 = 0 := by decide
    have hpos : (0 : Int) < t.length := by omega
    have hpos2 : 0 < t.length := by omega
    simp +decide -dsimp -implicitDefEqProofs [go_sem]
    refine loop_of (S := Unit) (fun _ => ⟨tmps 40 [(0, .str t), (1, .int .i64 b), (4, .int .i64 0), (5, .int .i64 g), (6, .int .i64 0), (7, .int .i64 0)], []⟩) (fun _ => 0) (fun _ => True) () trivial (cut_of (by simp) ?_) ?_
    · simp +decide -dsimp -implicitDefEqProofs [go_sem]
    intro _ _
    simp +decide -dsimp -implicitDefEqProofs [go_sem, h10', hpos2, w0]
  rw [if_pos h10]
  have h10' : (t.length : Int) ≤ 10 := by omega
  simp +decide -dsimp -implicitDefEqProofs [go_sem]
  refine loop_of (S := Nat) (fun i => ⟨tmps 40 [(0, .str t), (1, .int .i64 b), (4, .int .i64 0), (5, .int .i64 g), (6, .int .i64 (valB b (t.take i))), (7, .int .i64 i)], []⟩) (fun i => t.length - i) (fun i => i ≤ t.length) 0 (by simp) (cut_of (by simp) ?_) ?_
  · simp +decide -dsimp -implicitDefEqProofs [go_sem, valB]
  intro i hi
  have b1 := valB_bd10 hb10 (l := t.take i) (by simp; omega)
  by_cases h : i < t.length
  · have w : IntKind.i64.wrap ((i : Int) + 1) = i + 1 := w64 (by omega) (by omega)
    have hc256 : t[i].toNat < 256 := t[i].toNat_lt
    have b2 : (valB b (t.take i) * (b : Int)).natAbs ≤ 10000000000000 * 10 := by
      rw [Int.natAbs_mul]; exact Nat.mul_le_mul b1 (by simpa using hb10)
    have w1 : IntKind.i64.wrap (valB b (t.take i) * (b : Int)) = valB b (t.take i) * (b : Int) := w64 (by omega) (by omega)
    have w2 : IntKind.i64.wrap (t[i].toNat : Int) = t[i].toNat := w64 (by omega) (by omega)
    have w3 : IntKind.i64.wrap (valB b (t.take i) * (b : Int) + t[i].toNat) = valB b (t.take i) * (b : Int) + t[i].toNat := w64 (by omega) (by omega)
    have w4 : IntKind.i64.wrap (valB b (t.take i) * (b : Int) + t[i].toNat - 48) = valB b (t.take i) * (b : Int) + t[i].toNat - 48 := w64 (by omega) (by omega)
    have e : valB b (t.take i) * (b : Int) + t[i].toNat - 48 = valB b (t.take (i + 1)) := by
      rw [List.take_succ_eq_append_getElem h, valB_snoc]; omega
    simp +decide -dsimp -implicitDefEqProofs [go_sem, h, h10', w, w1, w2, w3, w4]
    rw [e]
    refine next_of (i + 1) (by omega) (by omega) (cut_of (by simp) ?_)
    simp +decide -dsimp -implicitDefEqProofs [go_sem]
  · have e : i = t.length := by omega
    subst e
    rw [List.take_length] at b1 ⊢
    have w1 : IntKind.i64.wrap (g * valB b t) = g * valB b t := by
      rcases hgb with rfl | rfl
      · exact w64 (by omega) (by omega)
      · exact w64 (by omega) (by omega)
    simp +decide -dsimp -implicitDefEqProofs [go_sem, w1]
end Go.Ab
namespace Go.Ab
open Go Go.Proofs
structure Bd (m i : Nat) (x : Rcd) : Prop where
  path : x.path.length ≤ m
  props : x.props.length ≤ i
  vals : ∀ p ∈ x.props, p.2.length ≤ m
  tags : x.tags.length ≤ i
  links : x.links.length ≤ i
  link : ∀ y ∈ x.links, y.length ≤ m
  runs : x.run.length ≤ i
  run : ∀ y ∈ x.run, y.length ≤ m
  loads : x.load.length ≤ i
  load : ∀ y ∈ x.load, y.length ≤ m
theorem stepR_cases {P : Rcd → Prop} {x : Rcd} {l : List UInt8} (h0 : P x) (h1 : P { x with path := l.drop 2 }) (h2 : P { x with index := refN 10 (l.drop 2) }) (h3 : P { x with props := x.props ++ [attrP (l.drop 2)] }) (h4 : P { x with tags := x.tags ++ [l.drop 2] }) (h5 : P { x with links := x.links ++ [l.drop 2] }) (h6 : P { x with run := x.run ++ [l.drop 2] }) (h7 : P { x with load := x.load ++ [l.drop 2] }) (h8 : P { x with name := l.drop 2 }) (h9 : P { x with owner := l.drop 2 }) (h10 : P { x with group := l.drop 2 }) (h11 : P { x with prio := refN 10 (l.drop 2) }) (h12 : P { x with mode := refN 8 (l.drop 2) }) : P (stepR x l) := by
  by_cases g0 : l.length < 2
  · have e : stepR x l = x := by simp [stepR, g0]
    rw [e]; exact h0
  by_cases g1 : l.take 2 = [80, 58]
  · have e : stepR x l = { x with path := l.drop 2 } := by simp +decide [stepR, g0, g1]
    rw [e]; exact h1
  by_cases g2 : l.take 2 = [73, 58]
  · have e : stepR x l = { x with index := refN 10 (l.drop 2) } := by simp +decide [stepR, g0, g2]
    rw [e]; exact h2
  by_cases g3 : l.take 2 = [69, 58]
  · have e : stepR x l = { x with props := x.props ++ [attrP (l.drop 2)] } := by simp +decide [stepR, g0, g3]
    rw [e]; exact h3
  by_cases g4 : l.take 2 = [71, 58]
  · have e : stepR x l = { x with tags := x.tags ++ [l.drop 2] } := by simp +decide [stepR, g0, g4]
    rw [e]; exact h4
  by_cases g5 : l.take 2 = [76, 58]
  · have e : stepR x l = { x with links := x.links ++ [l.drop 2] } := by simp +decide [stepR, g0, g5]
    rw [e]; exact h5
  by_cases g6 : l.take 2 = [82, 58]
  · have e : stepR x l = { x with run := x.run ++ [l.drop 2] } := by simp +decide [stepR, g0, g6]
    rw [e]; exact h6
  by_cases g7 : l.take 2 = [77, 58]
  · have e : stepR x l = { x with load := x.load ++ [l.drop 2] } := by simp +decide [stepR, g0, g7]
    rw [e]; exact h7
  by_cases g8 : l.take 2 = [78, 58]
  · have e : stepR x l = { x with name := l.drop 2 } := by simp +decide [stepR, g0, g8]
    rw [e]; exact h8
  by_cases g9 : l.take 2 = [79, 58]
  · have e : stepR x l = { x with owner := l.drop 2 } := by simp +decide [stepR, g0, g9]
    rw [e]; exact h9
  by_cases g10 : l.take 2 = [81, 58]
  · have e : stepR x l = { x with group := l.drop 2 } := by simp +decide [stepR, g0, g10]
    rw [e]; exact h10
  by_cases g11 : l.take 2 = [89, 58]
  · have e : stepR x l = { x with prio := refN 10 (l.drop 2) } := by simp +decide [stepR, g0, g11]
    rw [e]; exact h11
  by_cases g12 : l.take 2 = [88, 58]
  · have e : stepR x l = { x with mode := refN 8 (l.drop 2) } := by simp +decide [stepR, g0, g12]
    rw [e]; exact h12
  have e : stepR x l = x := by simp only [stepR, g0, g1, g2, g3, g4, g5, g6, g7, g8, g9, g10, g11, g12, if_false]
  rw [e]; exact h0
theorem Bd.step {m i : Nat} {x : Rcd} {l : List UInt8} (h : Bd m i x) (hl : l.length ≤ m) : Bd m (i + 1) (stepR x l) := by
  obtain ⟨h1, h2, h3, h4, h5, h6, h7, h8, h9, h10⟩ := h
  have hd : (l.drop 2).length ≤ m := by simp; omega
  have ha : (attrP (l.drop 2)).2.length ≤ m := Nat.le_trans (attrP_len _).2 hd
  have app : ∀ {L : List (List UInt8)}, (∀ y ∈ L, y.length ≤ m) → ∀ y ∈ L ++ [l.drop 2], y.length ≤ m := fun hL y hy => by
    rcases List.mem_append.1 hy with hy | hy
    · exact hL y hy
    · rw [List.mem_singleton.1 hy]; exact hd
  have appA : ∀ p ∈ x.props ++ [attrP (l.drop 2)], p.2.length ≤ m := fun p hp => by
    rcases List.mem_append.1 hp with hp | hp
    · exact h3 p hp
    · rw [List.mem_singleton.1 hp]; exact ha
  exact stepR_cases (P := Bd m (i + 1)) ⟨h1, Nat.le_succ_of_le h2, h3, Nat.le_succ_of_le h4, Nat.le_succ_of_le h5, h6, Nat.le_succ_of_le h7, h8, Nat.le_succ_of_le h9, h10⟩
    ⟨hd, Nat.le_succ_of_le h2, h3, Nat.le_succ_of_le h4, Nat.le_succ_of_le h5, h6, Nat.le_succ_of_le h7, h8, Nat.le_succ_of_le h9, h10⟩
    ⟨h1, Nat.le_succ_of_le h2, h3, Nat.le_succ_of_le h4, Nat.le_succ_of_le h5, h6, Nat.le_succ_of_le h7, h8, Nat.le_succ_of_le h9, h10⟩
    ⟨h1, by simp only [List.length_append, List.length_cons, List.length_nil]; omega, appA, Nat.le_succ_of_le h4, Nat.le_succ_of_le h5, h6, Nat.le_succ_of_le h7, h8, Nat.le_succ_of_le h9, h10⟩
    ⟨h1, Nat.le_succ_of_le h2, h3, by simp only [List.length_append, List.length_cons, List.length_nil]; omega, Nat.le_succ_of_le h5, h6, Nat.le_succ_of_le h7, h8, Nat.le_succ_of_le h9, h10⟩
    ⟨h1, Nat.le_succ_of_le h2, h3, Nat.le_succ_of_le h4, by simp only [List.length_append, List.length_cons, List.length_nil]; omega, app h6, Nat.le_succ_of_le h7, h8, Nat.le_succ_of_le h9, h10⟩
    ⟨h1, Nat.le_succ_of_le h2, h3, Nat.le_succ_of_le h4, Nat.le_succ_of_le h5, h6, by simp only [List.length_append, List.length_cons, List.length_nil]; omega, app h8, Nat.le_succ_of_le h9, h10⟩
    ⟨h1, Nat.le_succ_of_le h2, h3, Nat.le_succ_of_le h4, Nat.le_succ_of_le h5, h6, Nat.le_succ_of_le h7, h8, by simp only [List.length_append, List.length_cons, List.length_nil]; omega, app h10⟩
    ⟨h1, Nat.le_succ_of_le h2, h3, Nat.le_succ_of_le h4, Nat.le_succ_of_le h5, h6, Nat.le_succ_of_le h7, h8, Nat.le_succ_of_le h9, h10⟩
    ⟨h1, Nat.le_succ_of_le h2, h3, Nat.le_succ_of_le h4, Nat.le_succ_of_le h5, h6, Nat.le_succ_of_le h7, h8, Nat.le_succ_of_le h9, h10⟩
    ⟨h1, Nat.le_succ_of_le h2, h3, Nat.le_succ_of_le h4, Nat.le_succ_of_le h5, h6, Nat.le_succ_of_le h7, h8, Nat.le_succ_of_le h9, h10⟩
    ⟨h1, Nat.le_succ_of_le h2, h3, Nat.le_succ_of_le h4, Nat.le_succ_of_le h5, h6, Nat.le_succ_of_le h7, h8, Nat.le_succ_of_le h9, h10⟩
    ⟨h1, Nat.le_succ_of_le h2, h3, Nat.le_succ_of_le h4, Nat.le_succ_of_le h5, h6, Nat.le_succ_of_le h7, h8, Nat.le_succ_of_le h9, h10⟩
def xBox (x : Rcd) : AObj := .box 34 [.str x.path, .int .i64 x.index, .own 2 x.props.length, .own 3 x.tags.length, .own 4 x.links.length, .own 5 x.run.length, .own 6 x.load.length, .str x.name, .int .i64 x.prio, .str x.owner, .str x.group, .int .i64 x.mode]
def xH (x : Rcd) : List AObj := [.box 34 [.str [], .int .i64 0, .nils, .nils, .nils, .nils, .nils, .str [], .int .i64 0, .str [], .str [], .int .i64 0], xBox x, .reg 93 2 (x.props.map aRow), .reg 9 1 (x.tags.map sRow), .reg 9 1 (x.links.map sRow), .reg 9 1 (x.run.map sRow), .reg 9 1 (x.load.map sRow)]
theorem sRow_snoc (l : List (List UInt8)) (x : List UInt8) : l.map sRow ++ [[AV.str x]] = (l ++ [x]).map sRow := by simp [sRow]
theorem aRow_snoc (l : List (List UInt8 × List UInt8)) (p : List UInt8 × List UInt8) : l.map aRow ++ [[AV.str p.1, AV.str p.2]] = (l ++ [p]).map aRow := by simp [aRow]
theorem cutA_attr (t : List UInt8) : ∃ b, cutA 61 t = .tup [.str (attrP t).1, .str (attrP t).2, .bool b] := by
  cases hq : cutL 61 t <;> simp [cutA, attrP, hq]

set_option maxRecDepth 20000 in
set_option maxHeartbeats 4000000 in
theorem rDecode_c (s : List UInt8) (hl : s.length < 50000000) : ACalls Tryz.prog 156 [.str s] [] (decV s) [] := by
  refine acalls_A c156_ok rfl ?_
  unfold c156
  have hsp := Split_c s 10 (by omega)
  have hL1 := splitL_length_le s 10
  have hL2 : ∀ x ∈ splitL s 10, x.length ≤ s.length := fun x hx => splitL_small hx
  obtain ⟨L, hL⟩ : ∃ L, L = splitL s 10 := ⟨_, rfl⟩
  rw [← hL] at hsp hL1 hL2
  obtain ⟨x, hx⟩ : ∃ x, x = L.foldl stepR nil0 := ⟨_, rfl⟩
  have hback : ∀ r, soundB r = true → encT r = s → x = r := fun r hS he => by
    have := fold_enc (nice_of hS)
    rw [he, ← splitL_eq, ← hL, ← hx] at this
    exact this
  have hV : decV s = if soundB x = true ∧ encT x = s then .tup [.agg (rRow x), .int .i64 0] else .tup [.agg (rRow nil0), .int .i64 251] := by
    unfold decV
    by_cases hd : decS s
    · have hc := hd.choose_spec
      have hxc := hback _ hc.1 hc.2
      rw [dif_pos hd, if_pos ⟨hxc ▸ hc.1, hxc ▸ hc.2⟩, hxc]
    · rw [dif_neg hd, if_neg fun h => hd ⟨x, h⟩]
  have hbd : ∀ i, i ≤ L.length → Bd s.length i ((L.take i).foldl stepR nil0) := by
    intro i
    induction i with
    | zero => intro _; simp only [List.take_zero, List.foldl_nil]; exact ⟨by simp [nil0], by simp [nil0], by simp [nil0], by simp [nil0], by simp [nil0], by simp [nil0], by simp [nil0], by simp [nil0], by simp [nil0], by simp [nil0]⟩
    | succ i ih =>
      intro h
      rw [List.take_succ_eq_append_getElem (by omega), List.foldl_append]
      exact (ih (by omega)).step (hL2 _ (List.getElem_mem _))
  refine awp_cut ⟨tmps 125 [(0, .str s), (2, .ptr 0 0), (3, .int .i64 0)], [.box 34 [.str [], .int .i64 0, .nils, .nils, .nils, .nils, .nils, .str [], .int .i64 0, .str [], .str [], .int .i64 0]]⟩ (awp_of ?_) (awp_cut ⟨tmps 125 [(0, .str s), (2, .ptr 0 0), (3, .int .i64 0), (4, .ptr 1 0)], xH nil0⟩ (awp_of ?_)
    (awp_cut ⟨tmps 125 [(0, .str s), (2, .ptr 0 0), (3, .int .i64 0), (4, .ptr 1 0), (5, .imm (L.map sRow))], xH nil0⟩ (awp_of ?_)
    (awp_cut ⟨tmps 125 [(0, .str s), (2, .ptr 0 0), (3, .int .i64 0), (4, .ptr 1 0)], [.box 34 [.str [], .int .i64 0, .nils, .nils, .nils, .nils, .nils, .str [], .int .i64 0, .str [], .str [], .int .i64 0], .box 34 (rRow x)]⟩ (awp_of ?_) (awp_of ?_))))
  · simp +decide -dsimp -implicitDefEqProofs [go_sem]
    refine cutE_of (by simp) ?_
    simp +decide -dsimp -implicitDefEqProofs [go_sem]
  · simp +decide -dsimp -implicitDefEqProofs [go_sem]
    refine Wk.trans (Wk.nilB 1 2 93 2 rfl rfl (by simp)) (Wk.trans (Wk.nilB 1 3 9 1 rfl rfl (by simp)) (Wk.trans (Wk.nilB 1 4 9 1 rfl rfl (by simp)) (Wk.trans (Wk.nilB 1 5 9 1 rfl rfl (by simp)) (Wk.trans (Wk.nilB 1 6 9 1 rfl rfl (by simp)) (cut_of (by simp) ?_)))))
    simp +decide -dsimp -implicitDefEqProofs [go_sem, xH, xBox, nil0]
  · unfold xH xBox
    simp +decide -dsimp -implicitDefEqProofs [go_sem]
    refine callE_pure hsp rfl (by simp [go_sem]) ?_
    simp +decide -dsimp -implicitDefEqProofs [go_sem]
    refine cutE_of (by simp) ?_
    simp +decide -dsimp -implicitDefEqProofs [go_sem, nil0]
  · simp +decide -dsimp -implicitDefEqProofs [go_sem]
    refine loop_of (S := Nat × Rcd) (fun t => ⟨tmps 125 [(0, .str s), (2, .ptr 0 0), (3, .int .i64 0), (4, .ptr 1 0), (5, .imm (L.map sRow)), (6, .int .i64 t.1)], xH t.2⟩) (fun t => L.length - t.1)
      (fun t => t.1 ≤ L.length ∧ t.2 = (L.take t.1).foldl stepR nil0) (0, nil0) (by simp) (cut_of (by simp) ?_) ?_
    · simp +decide -dsimp -implicitDefEqProofs [go_sem, xH, xBox, nil0]
    rintro ⟨i, y⟩ ⟨hi, hy⟩
    simp only at hi hy
    by_cases h : i < L.length
    rotate_left
    · have e : i = L.length := by omega
      subst e
      rw [List.take_length, ← hx] at hy
      subst hy
      unfold xH xBox
      simp +decide -dsimp -implicitDefEqProofs [go_sem]
      refine cutE_of (by simp) ?_
      simp +decide -dsimp -implicitDefEqProofs [go_sem, rRow]
    have hB := hy ▸ hbd i hi
    have w : IntKind.i64.wrap ((i : Int) + 1) = i + 1 := w64 (by omega) (by omega)
    have hstep : stepR y L[i] = (L.take (i + 1)).foldl stepR nil0 := by
      rw [List.take_succ_eq_append_getElem h, List.foldl_append, ← hy]; rfl
    have hlen := hL2 _ (List.getElem_mem h)
    have hB1 := hB.props; have hB2 := hB.tags; have hB3 := hB.links; have hB4 := hB.runs; have hB5 := hB.loads
    have nx : ∀ {T : List AV} {H : List AObj} {k : Nat} {u}, (z : Rcd) → stepR y L[i] = z → Wk 0 ⟨T, H⟩ ⟨tmps 125 [(0, .str s), (2, .ptr 0 0), (3, .int .i64 0), (4, .ptr 1 0), (5, .imm (L.map sRow)), (6, .int .i64 ((i + 1 : Nat) : Int))], xH z⟩ →
        nextE (S := Nat × Rcd) 0 (fun t => ⟨tmps 125 [(0, .str s), (2, .ptr 0 0), (3, .int .i64 0), (4, .ptr 1 0), (5, .imm (L.map sRow)), (6, .int .i64 t.1)], xH t.2⟩) (fun t => L.length - t.1) (fun t => t.1 ≤ L.length ∧ t.2 = (L.take t.1).foldl stepR nil0) (i, y) T H u := by
      intro T H k u z hz hw
      exact next_of (i + 1, z) ⟨by show i + 1 ≤ _; omega, hz ▸ hstep⟩ (by show _ - (i + 1) < _ - i; omega) hw
    by_cases h2 : L[i].length < 2
    · have h2' : (L[i].length : Int) < 2 := by omega
      unfold xH xBox
      simp +decide -dsimp -implicitDefEqProofs [go_sem, h, h2', w]
      refine nx (k := 0) y (by simp [stepR, h2]) (cut_of (by simp) ?_)
      simp +decide -dsimp -implicitDefEqProofs [go_sem, xH, xBox]
    have h2' : ¬ (L[i].length : Int) < 2 := by omega
    have h2n : 2 ≤ L[i].length := by omega
    by_cases k1 : L[i].take 2 = [80, 58]
    · have hst : stepR y L[i] = { y with path := L[i].drop 2 } := by simp +decide [stepR, h2, k1]
      unfold xH xBox
      simp +decide -dsimp -implicitDefEqProofs [go_sem, h, h2', h2n, k1, w]
      refine nx (k := 0) _ hst (cut_of (by simp) ?_)
      simp +decide -dsimp -implicitDefEqProofs [go_sem, xH, xBox]
    by_cases k2 : L[i].take 2 = [73, 58]
    · have hst : stepR y L[i] = { y with index := refN 10 (L[i].drop 2) } := by simp +decide [stepR, h2, k2]
      unfold xH xBox
      simp +decide -dsimp -implicitDefEqProofs [go_sem, h, h2', h2n, k2]
      refine callE_pure (rNumber_c (L[i].drop 2) 10 (by decide) (by simp; omega)) rfl rfl ?_
      simp +decide -dsimp -implicitDefEqProofs [go_sem, w]
      refine nx (k := 0) _ hst (cut_of (by simp) ?_)
      simp +decide -dsimp -implicitDefEqProofs [go_sem, xH, xBox]
    by_cases k3 : L[i].take 2 = [69, 58]
    · have hst : stepR y L[i] = { y with props := y.props ++ [attrP (L[i].drop 2)] } := by simp +decide [stepR, h2, k3]
      unfold xH xBox
      simp +decide -dsimp -implicitDefEqProofs [go_sem, h, h2', h2n, k3]
      obtain ⟨b, eA⟩ := cutA_attr (L[i].drop 2)
      have hcut := Cut_c (L[i].drop 2) 61 (by simp; omega)
      rw [eA] at hcut
      refine callE_pure hcut rfl (by simp [go_sem]) ?_
      simp +decide -dsimp -implicitDefEqProofs [go_sem, w, maxLen]
      refine ⟨⟨by omega, by omega⟩, ?_⟩
      rw [aRow_snoc]
      refine nx (k := 0) _ hst (cut_of (by simp) ?_)
      simp +decide -dsimp -implicitDefEqProofs [go_sem, xH, xBox, aRow]
    by_cases k4 : L[i].take 2 = [71, 58]
    · have hst : stepR y L[i] = { y with tags := y.tags ++ [L[i].drop 2] } := by simp +decide [stepR, h2, k4]
      unfold xH xBox
      simp +decide -dsimp -implicitDefEqProofs [go_sem, h, h2', h2n, k4, w, maxLen]
      refine ⟨⟨by omega, by omega⟩, ?_⟩
      rw [sRow_snoc]
      refine nx (k := 0) _ hst (cut_of (by simp) ?_)
      simp +decide -dsimp -implicitDefEqProofs [go_sem, xH, xBox, sRow_closed]
    by_cases k5 : L[i].take 2 = [76, 58]
    · have hst : stepR y L[i] = { y with links := y.links ++ [L[i].drop 2] } := by simp +decide [stepR, h2, k5]
      unfold xH xBox
      simp +decide -dsimp -implicitDefEqProofs [go_sem, h, h2', h2n, k5, w, maxLen]
      refine ⟨⟨by omega, by omega⟩, ?_⟩
      rw [sRow_snoc]
      refine nx (k := 0) _ hst (cut_of (by simp) ?_)
      simp +decide -dsimp -implicitDefEqProofs [go_sem, xH, xBox, sRow_closed]
    by_cases k6 : L[i].take 2 = [82, 58]
    · have hst : stepR y L[i] = { y with run := y.run ++ [L[i].drop 2] } := by simp +decide [stepR, h2, k6]
      unfold xH xBox
      simp +decide -dsimp -implicitDefEqProofs [go_sem, h, h2', h2n, k6, w, maxLen]
      refine ⟨⟨by omega, by omega⟩, ?_⟩
      rw [sRow_snoc]
      refine nx (k := 0) _ hst (cut_of (by simp) ?_)
      simp +decide -dsimp -implicitDefEqProofs [go_sem, xH, xBox, sRow_closed]
    by_cases k7 : L[i].take 2 = [77, 58]
    · have hst : stepR y L[i] = { y with load := y.load ++ [L[i].drop 2] } := by simp +decide [stepR, h2, k7]
      unfold xH xBox
      simp +decide -dsimp -implicitDefEqProofs [go_sem, h, h2', h2n, k7, w, maxLen]
      refine ⟨⟨by omega, by omega⟩, ?_⟩
      rw [sRow_snoc]
      refine nx (k := 0) _ hst (cut_of (by simp) ?_)
      simp +decide -dsimp -implicitDefEqProofs [go_sem, xH, xBox, sRow_closed]
    by_cases k8 : L[i].take 2 = [78, 58]
    · have hst : stepR y L[i] = { y with name := L[i].drop 2 } := by simp +decide [stepR, h2, k8]
      unfold xH xBox
      simp +decide -dsimp -implicitDefEqProofs [go_sem, h, h2', h2n, k8, w]
      refine nx (k := 0) _ hst (cut_of (by simp) ?_)
      simp +decide -dsimp -implicitDefEqProofs [go_sem, xH, xBox]
    by_cases k9 : L[i].take 2 = [79, 58]
    · have hst : stepR y L[i] = { y with owner := L[i].drop 2 } := by simp +decide [stepR, h2, k9]
      unfold xH xBox
      simp +decide -dsimp -implicitDefEqProofs [go_sem, h, h2', h2n, k9, w]
      refine nx (k := 0) _ hst (cut_of (by simp) ?_)
      simp +decide -dsimp -implicitDefEqProofs [go_sem, xH, xBox]
    by_cases k10 : L[i].take 2 = [81, 58]
    · have hst : stepR y L[i] = { y with group := L[i].drop 2 } := by simp +decide [stepR, h2, k10]
      unfold xH xBox
      simp +decide -dsimp -implicitDefEqProofs [go_sem, h, h2', h2n, k10, w]
      refine nx (k := 0) _ hst (cut_of (by simp) ?_)
      simp +decide -dsimp -implicitDefEqProofs [go_sem, xH, xBox]
    by_cases k11 : L[i].take 2 = [89, 58]
    · have hst : stepR y L[i] = { y with prio := refN 10 (L[i].drop 2) } := by simp +decide [stepR, h2, k11]
      unfold xH xBox
      simp +decide -dsimp -implicitDefEqProofs [go_sem, h, h2', h2n, k11]
      refine callE_pure (rNumber_c (L[i].drop 2) 10 (by decide) (by simp; omega)) rfl rfl ?_
      simp +decide -dsimp -implicitDefEqProofs [go_sem, w]
      refine nx (k := 0) _ hst (cut_of (by simp) ?_)
      simp +decide -dsimp -implicitDefEqProofs [go_sem, xH, xBox]
    by_cases k12 : L[i].take 2 = [88, 58]
    · have hst : stepR y L[i] = { y with mode := refN 8 (L[i].drop 2) } := by simp +decide [stepR, h2, k12]
      unfold xH xBox
      simp +decide -dsimp -implicitDefEqProofs [go_sem, h, h2', h2n, k12]
      refine callE_pure (rNumber_c (L[i].drop 2) 8 (by decide) (by simp; omega)) rfl rfl ?_
      simp +decide -dsimp -implicitDefEqProofs [go_sem, w]
      refine nx (k := 0) _ hst (cut_of (by simp) ?_)
      simp +decide -dsimp -implicitDefEqProofs [go_sem, xH, xBox]
    have hst : stepR y L[i] = y := by simp only [stepR, h2, k1, k2, k3, k4, k5, k6, k7, k8, k9, k10, k11, k12, if_false]
    unfold xH xBox
    simp +decide -dsimp -implicitDefEqProofs [go_sem, h, h2', h2n, k1, k2, k3, k4, k5, k6, k7, k8, k9, k10, k11, k12, w]
    refine nx (k := 0) _ hst (cut_of (by simp) ?_)
    simp +decide -dsimp -implicitDefEqProofs [go_sem, xH, xBox]
  have hB := hbd L.length (Nat.le_refl _)
  rw [List.take_length, ← hx] at hB
  have hfew : Few x := by
    have := hB.path; have := hB.props; have := hB.tags; have := hB.links; have := hB.runs; have := hB.loads
    exact ⟨by omega, by omega, by omega, fun p hp => by have := hB.vals p hp; omega, by omega, fun p hp => by have := hB.link p hp; omega, by omega, fun p hp => by have := hB.run p hp; omega, by omega, fun p hp => by have := hB.load p hp; omega⟩
  have c1 := rSound_c x hfew
  rw [hV]
  by_cases hS : soundB x = true
  · have c2 := text_c x hS
    unfold rRow at c1 c2 ⊢
    by_cases he : encT x = s
    · rw [if_pos ⟨hS, he⟩]
      simp +decide -dsimp -implicitDefEqProofs [go_sem]
      refine callE_pure c1 (by simp [go_sem]) rfl ?_
      simp +decide -dsimp -implicitDefEqProofs [go_sem, hS]
      refine callE_pure c2 (by simp [go_sem]) rfl ?_
      simp +decide -dsimp -implicitDefEqProofs [go_sem, he]
    · rw [if_neg fun h => he h.2]
      simp +decide -dsimp -implicitDefEqProofs [go_sem]
      refine callE_pure c1 (by simp [go_sem]) rfl ?_
      simp +decide -dsimp -implicitDefEqProofs [go_sem, hS]
      refine callE_pure c2 (by simp [go_sem]) rfl ?_
      simp +decide -dsimp -implicitDefEqProofs [go_sem, he, nil0]
  · rw [if_neg fun h => hS h.1]
    unfold rRow at c1 ⊢
    simp +decide -dsimp -implicitDefEqProofs [go_sem]
    refine callE_pure c1 (by simp [go_sem]) rfl ?_
    simp +decide -dsimp -implicitDefEqProofs [go_sem, hS, nil0]
end Go.Ab
namespace Go.Ab
open Go Go.Proofs
def wrR (w : Wr) : List AV := [.str w.1, .str (w.2.getD []), .bool w.2.isNone]
theorem wrR_cl (k : Nat) (l : List Wr) : closedLL k (l.map wrR) = true := closedLL_map fun _ _ => rfl
def hasB (l : List Ent) (n : List UInt8) : Bool := l.any fun e => decide (e.1 = n)
theorem dHas_c (l : List Ent) (n : List UInt8) (hn : l.length ≤ 1000000) : ACalls Tryz.prog 72 [.imm (l.map eRow), .str n] [] (.bool (hasB l n)) [] := by
  have hec := closedLL_eRows
  refine acalls_F c72_ok rfl ?_
  unfold c72
  simp +decide -dsimp -implicitDefEqProofs [go_sem]
  refine loop_of (S := Nat) (fun i => ⟨tmps 19 [(0, .imm (l.map eRow)), (1, .str n), (5, .int .i64 i)], []⟩) (fun i => l.length - i) (fun i => i ≤ l.length ∧ hasB l n = hasB (l.drop i) n) 0 (by simp) (cut_of (by simp) ?_) ?_
  · simp +decide -dsimp -implicitDefEqProofs [go_sem, hec]
  rintro i ⟨hi, hb⟩
  by_cases h : i < l.length
  · have w : IntKind.i64.wrap ((i : Int) + 1) = i + 1 := w64 (by omega) (by omega)
    have hd : l.drop i = l[i] :: l.drop (i + 1) := List.drop_eq_getElem_cons h
    rw [hd] at hb
    by_cases he : l[i].1 = n
    · have : hasB l n = true := by rw [hb]; unfold hasB; rw [List.any_cons, decide_eq_true he]; rfl
      simp +decide -dsimp -implicitDefEqProofs [go_sem, h, eRow, he, this]
    · have hb2 : hasB l n = hasB (l.drop (i + 1)) n := by rw [hb]; unfold hasB; rw [List.any_cons, decide_eq_false he]; rfl
      simp +decide -dsimp -implicitDefEqProofs [go_sem, h, eRow, he, w]
      refine next_of (i + 1) ⟨by omega, hb2⟩ (by show l.length - (i + 1) < l.length - i; omega) (cut_of (by simp) ?_)
      simp +decide -dsimp -implicitDefEqProofs [go_sem, hec]
  · have e : i = l.length := by omega
    subst e
    rw [List.drop_length] at hb
    have : hasB l n = false := by rw [hb]; rfl
    simp +decide -dsimp -implicitDefEqProofs [go_sem, this]
def doneA (w : Wr) (l : List Ent) : Bool := w.2.isNone || l.any fun x => decide (w.1 < x.1)
def outA (w : Wr) : Bool → List Ent → List Ent
  | _, [] => []
  | d, x :: r => (if d = false ∧ w.1 < x.1 then [(w.1, w.2.getD [])] else []) ++ ((if x.1 = w.1 then [] else [x]) ++ outA w (d || decide (w.1 < x.1)) r)
theorem outA_snoc (w : Wr) : ∀ (d : Bool) (l : List Ent) (x : Ent), outA w d (l ++ [x]) = outA w d l ++ ((if (d || l.any fun x => decide (w.1 < x.1)) = false ∧ w.1 < x.1 then [(w.1, w.2.getD [])] else []) ++ (if x.1 = w.1 then [] else [x]))
  | d, [], x => by simp [outA]
  | d, y :: l, x => by
    rw [List.cons_append, outA, outA_snoc w _ l x, outA]
    simp only [List.append_assoc, List.any_cons, Bool.or_assoc]
    congr
theorem outA_end (w : Wr) : ∀ (d : Bool) (l : List Ent), applyA w d l = outA w d l ++ (if (d || l.any fun x => decide (w.1 < x.1)) = true then [] else [(w.1, w.2.getD [])])
  | d, [] => by cases d <;> simp [applyA, outA]
  | d, y :: l => by
    rw [applyA, outA_end w _ l, outA]
    simp only [List.append_assoc, List.any_cons, Bool.or_assoc]
    congr
theorem outA_len (w : Wr) : ∀ (d : Bool) (l : List Ent), (outA w d l).length ≤ 2 * l.length
  | d, [] => by simp [outA]
  | d, y :: l => by
    have := outA_len w (d || decide (w.1 < y.1)) l
    rw [outA]
    simp only [List.length_append, List.length_cons]
    split <;> split <;> simp <;> omega
set_option maxRecDepth 20000 in
set_option maxHeartbeats 2000000 in
theorem Apply_c (l : List Ent) (w : Wr) (hn : l.length ≤ 100000) : ACalls Tryz.prog 73 [.imm (l.map eRow), .agg (wrR w)] [] (.imm ((applyL w l).map eRow)) [] := by
  have hec := closedLL_eRows
  have hls : ∀ a b : List UInt8, Op.bytesLess a b = decide (a < b) := fun a b => bytesLess_eq a b
  refine acalls_F c73_ok rfl ?_
  unfold c73 wrR
  simp +decide -dsimp -implicitDefEqProofs [go_sem]
  refine loop_of (S := Nat) (fun i => ⟨tmps 58 [(0, .imm (l.map eRow)), (3, .ptr 0 0), (5, .own 1 (outA w w.2.isNone (l.take i)).length), (6, .bool (doneA w (l.take i))), (7, .int .i64 i)], [.box 127 [.str w.1, .str (w.2.getD []), .bool w.2.isNone], .reg 53 2 ((outA w w.2.isNone (l.take i)).map eRow)]⟩) (fun i => l.length - i) (fun i => i ≤ l.length) 0 (by simp) ((Wk.nilT 5 53 2 rfl (by simp)).trans (cut_of (by simp) ?_)) ?_
  · simp +decide -dsimp -implicitDefEqProofs [go_sem, hec, doneA, outA]
  intro i hi
  by_cases h : i < l.length
  · have wi : IntKind.i64.wrap ((i : Int) + 1) = i + 1 := w64 (by omega) (by omega)
    have hs : l.take (i + 1) = l.take i ++ [l[i]] := List.take_succ_eq_append_getElem h
    have hd : doneA w (l.take (i + 1)) = (doneA w (l.take i) || decide (w.1 < l[i].1)) := by
      unfold doneA; rw [hs, List.any_append, ← Bool.or_assoc]; simp only [List.any_cons, List.any_nil, Bool.or_false]
    have ho : outA w w.2.isNone (l.take (i + 1)) = outA w w.2.isNone (l.take i) ++ ((if doneA w (l.take i) = false ∧ w.1 < l[i].1 then [(w.1, w.2.getD [])] else []) ++ (if l[i].1 = w.1 then [] else [l[i]])) := by
      rw [hs, outA_snoc]; rfl
    have hol : (outA w w.2.isNone (l.take i)).length ≤ 2 * l.length := Nat.le_trans (outA_len _ _ _) (by rw [List.length_take]; omega)
    generalize outA w w.2.isNone (l.take i) = out at ho hol
    generalize doneA w (l.take i) = dn at hd ho
    have e2 : ∀ x : Ent, out.map eRow ++ [[AV.str x.1, .str x.2]] = (out ++ [x]).map eRow := fun x => by simp [eRow]
    have e3 : ∀ x y : Ent, (out ++ [x]).map eRow ++ [[AV.str y.1, .str y.2]] = (out ++ [x, y]).map eRow := fun x y => by simp [eRow]
    by_cases h1 : dn = false ∧ w.1 < l[i].1
    · obtain ⟨rfl, hlt⟩ := h1
      have hne : ¬ l[i].1 = w.1 := fun e => by rw [e] at hlt; exact List.lt_irrefl _ hlt
      rw [if_pos ⟨rfl, hlt⟩, if_neg hne] at ho
      have e4 := e2 (w.1, w.2.getD [])
      simp only at e4
      have e5 := e3 (w.1, w.2.getD []) l[i]
      have hdt : doneA w (l.take (i + 1)) = true := by rw [hd]; simp [hlt]
      simp +decide -dsimp -implicitDefEqProofs [go_sem, h, eRow, hls, hlt, hne, wi, maxLen]
      refine ⟨⟨by omega, by omega⟩, ⟨by omega, by omega⟩, ?_⟩
      refine next_of (i + 1) (by show i + 1 ≤ l.length; omega) (by show l.length - (i + 1) < l.length - i; omega) (cut_of (by simp) ?_)
      rw [ho, hdt]
      simp +decide -dsimp -implicitDefEqProofs [go_sem, hec, eRow]
    · rw [if_neg h1, List.nil_append] at ho
      have hdt : doneA w (l.take (i + 1)) = dn := by
        rw [hd]
        cases dn with
        | true => rfl
        | false =>
          have : ¬ w.1 < l[i].1 := fun h => h1 ⟨rfl, h⟩
          simp [this]
      have hdn : dn = true ∨ (dn = false ∧ ¬ w.1 < l[i].1) := by
        cases dn with
        | true => exact .inl rfl
        | false => exact .inr ⟨rfl, fun h => h1 ⟨rfl, h⟩⟩
      have e4 := e2 l[i]
      by_cases hne : l[i].1 = w.1
      · rw [if_pos hne, List.append_nil] at ho
        rcases hdn with rfl | ⟨rfl, hlt⟩
        · simp +decide -dsimp -implicitDefEqProofs [go_sem, h, eRow, hne, wi]
          refine next_of (i + 1) (by show i + 1 ≤ l.length; omega) (by show l.length - (i + 1) < l.length - i; omega) (cut_of (by simp) ?_)
          rw [ho, hdt]
          simp +decide -dsimp -implicitDefEqProofs [go_sem, hec]
        · have hlt' : ¬ w.1 < w.1 := List.lt_irrefl _
          simp +decide -dsimp -implicitDefEqProofs [go_sem, h, eRow, hls, hlt', hne, wi]
          refine next_of (i + 1) (by show i + 1 ≤ l.length; omega) (by show l.length - (i + 1) < l.length - i; omega) (cut_of (by simp) ?_)
          rw [ho, hdt]
          simp +decide -dsimp -implicitDefEqProofs [go_sem, hec]
      · rw [if_neg hne] at ho
        rcases hdn with rfl | ⟨rfl, hlt⟩
        · simp +decide -dsimp -implicitDefEqProofs [go_sem, h, eRow, hne, wi, maxLen]
          refine ⟨⟨by omega, by omega⟩, ?_⟩
          refine next_of (i + 1) (by show i + 1 ≤ l.length; omega) (by show l.length - (i + 1) < l.length - i; omega) (cut_of (by simp) ?_)
          rw [ho, hdt]
          simp +decide -dsimp -implicitDefEqProofs [go_sem, hec, eRow]
        · simp +decide -dsimp -implicitDefEqProofs [go_sem, h, eRow, hls, hlt, hne, wi, maxLen]
          refine ⟨⟨by omega, by omega⟩, ?_⟩
          refine next_of (i + 1) (by show i + 1 ≤ l.length; omega) (by show l.length - (i + 1) < l.length - i; omega) (cut_of (by simp) ?_)
          rw [ho, hdt]
          simp +decide -dsimp -implicitDefEqProofs [go_sem, hec, eRow]
  · have e : i = l.length := by omega
    subst e
    rw [List.take_length]
    have hol := outA_len w w.2.isNone l
    have he : applyL w l = outA w w.2.isNone l ++ (if doneA w l = true then [] else [(w.1, w.2.getD [])]) := outA_end w _ l
    generalize outA w w.2.isNone l = out at he hol
    generalize doneA w l = dn at he
    cases dn with
    | true =>
      rw [if_pos rfl, List.append_nil] at he
      rw [he]
      simp +decide -dsimp -implicitDefEqProofs [go_sem, hec]
    | false =>
      rw [if_neg (by simp)] at he
      rw [he]
      simp +decide -dsimp -implicitDefEqProofs [go_sem, hec, maxLen, eRow]
      exact ⟨by omega, by omega⟩
end Go.Ab
namespace Go.Ab
open Go Go.Proofs
def refV (dm : TMap) (pend : List Wr) : AV := .agg [.imm ((entsL dm).map eRow), .imm (pend.map wrR)]
theorem fold_len : ∀ (l : List Wr) (m : TMap), (foldW m l).length ≤ m.length + l.length
  | [], m => Nat.le_refl _
  | w :: l, m => by
    have h := fold_len l (doW m w)
    have h2 : (doW m w).length ≤ m.length + 1 := by
      unfold doW
      split
      · exact len_set _ _ _
      · rw [len_del]; omega
    show (foldW (doW m w) l).length ≤ _
    simp only [List.length_cons]; omega
theorem ents_len' {m : TMap} : (entsL m).length = cntS m := by unfold entsL; rw [List.length_map, srtK_len, ksS_len]
theorem ents_le (m : TMap) : (entsL m).length ≤ m.length := by rw [show (entsL m).length = cntS m by unfold entsL; rw [List.length_map, srtK_len, ksS_len]]; exact cnt_le m
theorem foldW_snoc (m : TMap) (l : List Wr) (w : Wr) : foldW m (l ++ [w]) = doW (foldW m l) w := by unfold foldW; rw [List.foldl_append]; rfl
set_option maxRecDepth 20000 in
theorem rEntries_c (dm : TMap) (pend : List Wr) (ho : oneS' dm) (hn : dm.length + pend.length ≤ 100000) : ACalls Tryz.prog 76 [refV dm pend] [] (.imm ((entsL (foldW dm pend)).map eRow)) [] := by
  have hec := closedLL_eRows
  have hwc := wrR_cl
  refine acalls_F c76_ok rfl ?_
  unfold c76 refV
  simp +decide -dsimp -implicitDefEqProofs [go_sem]
  refine loop_of (S := Nat) (fun i => ⟨tmps 22 [(1, .ptr 0 0), (3, .imm ((entsL (foldW dm (pend.take i))).map eRow)), (4, .int .i64 i)], [.box 72 [.imm ((entsL dm).map eRow), .imm (pend.map wrR)]]⟩) (fun i => pend.length - i) (fun i => i ≤ pend.length) 0 (by simp) (cut_of (by simp) ?_) ?_
  · simp +decide -dsimp -implicitDefEqProofs [go_sem, hec, hwc, foldW]
  intro i hi
  by_cases h : i < pend.length
  · have wi : IntKind.i64.wrap ((i : Int) + 1) = i + 1 := w64 (by omega) (by omega)
    have hs : foldW dm (pend.take (i + 1)) = doW (foldW dm (pend.take i)) pend[i] := by rw [List.take_succ_eq_append_getElem h, foldW_snoc]
    have hone := one_fold (pend.take i) ho
    have hl := fold_len (pend.take i) dm
    rw [List.length_take] at hl
    have hel := ents_le (foldW dm (pend.take i))
    have ca := Apply_c (entsL (foldW dm (pend.take i))) pend[i] (by omega)
    rw [← ents_doW hone, ← hs] at ca
    generalize entsL (foldW dm (pend.take i)) = E at ca
    unfold wrR at ca
    simp +decide -dsimp -implicitDefEqProofs [go_sem, h, wrR]
    refine callE_pure ca (by simp +decide -dsimp -implicitDefEqProofs [go_sem, hec]) (by simp +decide -dsimp -implicitDefEqProofs [go_sem, hec]) ?_
    simp +decide -dsimp -implicitDefEqProofs [go_sem, wi]
    refine next_of (i + 1) (by show i + 1 ≤ pend.length; omega) (by show pend.length - (i + 1) < pend.length - i; omega) (cut_of (by simp) ?_)
    simp +decide -dsimp -implicitDefEqProofs [go_sem, hec]
    exact hwc _ _
  · have e : i = pend.length := by omega
    subst e
    rw [List.take_length]
    simp +decide -dsimp -implicitDefEqProofs [go_sem, hec]
theorem write_c (dm : TMap) (pend : List Wr) (w : Wr) (hp : pend.length ≤ 100000) : ACalls Tryz.prog 120 [refV dm pend, .agg (wrR w)] [] (refV dm (pend ++ [w])) [] := by
  have hec := closedLL_eRows
  have hwc := wrR_cl
  have hl : ∀ r ∈ pend.map wrR, r.length = 3 := fun r hr => by obtain ⟨_, _, rfl⟩ := List.mem_map.1 hr; rfl
  have ha : pend.map wrR ++ [[AV.str w.1, .str (w.2.getD []), .bool w.2.isNone]] = (pend ++ [w]).map wrR := by simp [wrR]
  refine acalls_F c120_ok rfl ?_
  unfold c120 refV
  unfold wrR at ha ⊢
  simp +decide -dsimp -implicitDefEqProofs [go_sem, hec, maxLen]
  exact ⟨fun _ _ _ _ h => h ▸ rfl, ⟨by omega, by omega⟩, by omega, by omega⟩
set_option maxRecDepth 20000 in
theorem rCrash_c (dm : TMap) (pend : List Wr) (keep : Int) (ho : oneS' dm) (hn : dm.length + pend.length ≤ 100000) : ACalls Tryz.prog 42 [refV dm pend, .int .i64 keep] [] (refV (foldW dm (pend.take (keepN keep pend.length))) []) [] := by
  have hec := closedLL_eRows
  have hwc := wrR_cl
  refine acalls_F c42_ok rfl ?_
  unfold c42 refV
  simp +decide -dsimp -implicitDefEqProofs [go_sem]
  refine loop_of (S := Nat) (fun i => ⟨tmps 30 [(1, .int .i64 keep), (2, .ptr 0 0), (4, .ptr 1 0), (5, .imm ((entsL (foldW dm (pend.take i))).map eRow)), (6, .int .i64 i)], [.box 72 [.imm ((entsL dm).map eRow), .imm (pend.map wrR)], .box 72 [.nils, .nils]]⟩) (fun i => pend.length - i) (fun i => i ≤ keepN keep pend.length) 0 (by simp) (cut_of (by simp) ?_) ?_
  · simp +decide -dsimp -implicitDefEqProofs [go_sem, hec, hwc, foldW]
  intro i hi
  by_cases h : i < keepN keep pend.length
  · have hil : i < pend.length := by unfold keepN at h; omega
    have hik : (i : Int) < keep := by unfold keepN at h; omega
    have wi : IntKind.i64.wrap ((i : Int) + 1) = i + 1 := w64 (by omega) (by omega)
    have hs : foldW dm (pend.take (i + 1)) = doW (foldW dm (pend.take i)) pend[i] := by rw [List.take_succ_eq_append_getElem hil, foldW_snoc]
    have hone := one_fold (pend.take i) ho
    have hl := fold_len (pend.take i) dm
    rw [List.length_take] at hl
    have hel := ents_le (foldW dm (pend.take i))
    have ca := Apply_c (entsL (foldW dm (pend.take i))) pend[i] (by omega)
    rw [← ents_doW hone, ← hs] at ca
    generalize entsL (foldW dm (pend.take i)) = E at ca
    unfold wrR at ca
    simp +decide -dsimp -implicitDefEqProofs [go_sem, hil, hik, wrR]
    refine callE_pure ca (by simp +decide -dsimp -implicitDefEqProofs [go_sem, hec]) (by simp +decide -dsimp -implicitDefEqProofs [go_sem, hec]) ?_
    simp +decide -dsimp -implicitDefEqProofs [go_sem, wi]
    refine next_of (i + 1) (by show i + 1 ≤ keepN keep pend.length; omega) (by show pend.length - (i + 1) < pend.length - i; omega) (cut_of (by simp) ?_)
    simp +decide -dsimp -implicitDefEqProofs [go_sem, hec]
    exact hwc _ _
  · have e : i = keepN keep pend.length := by omega
    by_cases hil : i < pend.length
    · have hik : ¬ (i : Int) < keep := by unfold keepN at e; omega
      rw [← e]
      simp +decide -dsimp -implicitDefEqProofs [go_sem, hec, hil, hik]
    · rw [← e]
      have hil' : pend.length ≤ i := by omega
      simp +decide -dsimp -implicitDefEqProofs [go_sem, hec, hil]
theorem rSync_c (dm : TMap) (pend : List Wr) (ho : oneS' dm) (hn : dm.length + pend.length ≤ 100000) : ACalls Tryz.prog 81 [refV dm pend] [] (refV (foldW dm pend) []) [] := by
  have hec := closedLL_eRows
  have hwc := wrR_cl
  have cc := rCrash_c dm pend pend.length ho hn
  have hk : keepN pend.length pend.length = pend.length := by unfold keepN; omega
  rw [hk, List.take_length] at cc
  refine acalls_F c81_ok rfl ?_
  unfold c81
  unfold refV at cc ⊢
  simp +decide -dsimp -implicitDefEqProofs [go_sem]
  refine callE_pure cc (by simp +decide -dsimp -implicitDefEqProofs [go_sem, hec, hwc]) (by simp +decide -dsimp -implicitDefEqProofs [go_sem, hec]) ?_
  simp +decide -dsimp -implicitDefEqProofs [go_sem, hec]
def readT (t n : List UInt8) (r : Rcd) (b : Bool) : Prop :=
  (∃ x, soundB x = true ∧ encT x = t ∧ entL x.path = n ∧ r = x ∧ b = true) ∨ ((∀ x, soundB x = true → encT x = t → ¬ entL x.path = n) ∧ r = nil0 ∧ b = false)
set_option maxRecDepth 20000 in
theorem rWhole_c (n t : List UInt8) (ht : t.length < 50000000) : ∃ r b, readT t n r b ∧ ACalls Tryz.prog 118 [.agg [.str n, .str t]] [] (recV r b) [] := by
  have cd := rDecode_c t ht
  rcases decV_form t with ⟨x, hx, hxe, hv⟩ | ⟨hno, hv⟩
  · rw [hv] at cd
    have hpl := sound_place hx
    have cn := rEntry_c x.path (by have := (small_of hx).path; omega)
    unfold entV at cn
    simp only [hpl, if_true] at cn
    by_cases he : entL x.path = n
    · refine ⟨x, true, .inl ⟨x, hx, hxe, he, rfl, rfl⟩, ?_⟩
      refine acalls_F c118_ok rfl ?_
      unfold c118
      simp +decide -dsimp -implicitDefEqProofs [go_sem]
      refine callE_pure cd rfl (by simp +decide -dsimp -implicitDefEqProofs [go_sem, rRow_cl]) ?_
      unfold recV rRow
      simp +decide -dsimp -implicitDefEqProofs [go_sem]
      refine callE_pure cn rfl rfl ?_
      simp +decide -dsimp -implicitDefEqProofs [go_sem, he]
    · refine ⟨nil0, false, .inr ⟨fun y hy hye hp => ?_, rfl, rfl⟩, ?_⟩
      · have := enc_inj hy hx (hye.trans hxe.symm)
        exact he (this ▸ hp)
      · refine acalls_F c118_ok rfl ?_
        unfold c118
        simp +decide -dsimp -implicitDefEqProofs [go_sem]
        refine callE_pure cd rfl (by simp +decide -dsimp -implicitDefEqProofs [go_sem, rRow_cl]) ?_
        unfold recV
        rw [nil0_row]
        unfold rRow
        simp +decide -dsimp -implicitDefEqProofs [go_sem]
        refine callE_pure cn rfl rfl ?_
        simp +decide -dsimp -implicitDefEqProofs [go_sem, he]
  · rw [hv] at cd
    refine ⟨nil0, false, .inr ⟨fun y hy hye _ => hno ⟨y, hy, hye⟩, rfl, rfl⟩, ?_⟩
    refine acalls_F c118_ok rfl ?_
    unfold c118
    simp +decide -dsimp -implicitDefEqProofs [go_sem]
    refine callE_pure cd rfl (by simp +decide -dsimp -implicitDefEqProofs [go_sem]) ?_
    unfold recV
    rw [nil0_row]
    simp +decide -dsimp -implicitDefEqProofs [go_sem]
end Go.Ab
