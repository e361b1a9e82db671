/- A layer of abstract values over the model, and what is proved with it: part E9. -/
import Derived.Test.YtnibflopkjghcaaGreatDoorC3
import Derived.Test.YtnibflopkjghcaaGreatDoorX4
namespace Go.Ab
open Go Go.Proofs
def c8 : AFn := ⟨(.seq (.ops [⟨(some 2), (.mov (.v (.bool false))), none⟩]) (.seq (.ops [⟨(some 17), (.mov (.t 0)), none⟩, ⟨(some 18), (.build [.nils, (.int .i64 0)] [(0, (1, (.t 17)))]), none⟩, ⟨(some 19), (.box 25 (.t 18)), none⟩, ⟨(some 3), (.mov (.t 19)), none⟩]) (.seq (.ops [⟨(some 20), (.mov (.t 3)), none⟩, ⟨(some 21), (.call (.v (.fn (.func 10) [] [])) [(.t 20), (.v (.int .i64 9))]), none⟩, ⟨(some 4), (.alloc 28 [.nils]), none⟩, ⟨none, (.store (some 1) (.t 4) (.t 21)), none⟩]) (.seq (.ops [⟨(some 22), (.mov (.t 3)), none⟩, ⟨(some 23), (.load (some 1) (.t 4)), none⟩, ⟨(some 24), (.call (.v (.fn (.func 11) [] [])) [(.t 22), (.t 23)]), none⟩, ⟨(some 5), (.mov (.t 24)), none⟩]) (.seq (.draw [⟨(some 25), (.load (some 1) (.t 4)), none⟩, ⟨(some 26), (.mov (.t 5)), none⟩, ⟨(some 27), (.call (.v (.fn (.func 13) [] [])) [(.t 25), (.t 26)]), none⟩, ⟨(some 28), (.load (some 1) (.t 4)), none⟩, ⟨(some 29), (.mov (.t 5)), none⟩, ⟨(some 30), (.call (.v (.fn (.func 23) [] [])) [(.t 28), (.t 29)]), none⟩, ⟨(some 6), (.mov (.t 27)), none⟩, ⟨(some 7), (.mov (.t 30)), none⟩] [0, 0, 3, 0, 0, 31, 63, 127]) (.seq (.seq (.ops [⟨(some 8), (.mov (.v (.int .i64 0))), none⟩]) (.block 0 (.loop (.seq (.seq (.ops [⟨(some 31), (.mov (.t 8)), none⟩, ⟨(some 32), (.mov (.t 6)), none⟩, ⟨(some 33), (.len .sl (.t 32)), none⟩, ⟨(some 34), (.bin .lss (.t 31) (.t 33)), none⟩]) (.cond (.t 34) .skip (.exit 0))) (.seq (.block 1 (.seq (.draw [⟨(some 38), (.load (some 1) (.t 4)), none⟩, ⟨(some 39), (.mov (.t 6)), none⟩, ⟨(some 40), (.mov (.t 8)), none⟩, ⟨(some 41), (.iaddr none 7 (.t 39) (.t 40)), none⟩, ⟨(some 42), (.faddr 0 (.t 41)), none⟩, ⟨(some 43), (.load none (.t 42)), none⟩, ⟨(some 44), (.call (.v (.fn (.func 29) [] [])) [(.t 38), (.t 43)]), none⟩, ⟨(some 37), (.mov (.t 44)), none⟩, ⟨(some 45), (.extract (.t 37) 0), none⟩, ⟨(some 46), (.extract (.t 37) 1), none⟩, ⟨(some 9), (.alloc 55 [(.int .i64 0), (.int .i64 0), (.str []), (.str []), (.str []), (.str []), (.str []), (.int .i64 0), (.int .i64 0), .nils]), none⟩, ⟨none, (.store (some 10) (.t 9) (.t 45)), none⟩, ⟨(some 10), (.mov (.t 46)), none⟩] [0, 0, 0, 6, 14, 30, 63, 127, 255, 255, 0, 1535, 4095]) (.seq (.draw [⟨(some 48), (.load (some 1) (.t 4)), none⟩, ⟨(some 49), (.mov (.t 6)), none⟩, ⟨(some 50), (.mov (.t 8)), none⟩, ⟨(some 51), (.iaddr none 7 (.t 49) (.t 50)), none⟩, ⟨(some 52), (.faddr 6 (.t 51)), none⟩, ⟨(some 53), (.load none (.t 52)), none⟩, ⟨(some 54), (.call (.v (.fn (.func 30) [] [])) [(.t 48), (.t 53)]), none⟩, ⟨(some 47), (.mov (.t 54)), none⟩, ⟨(some 55), (.extract (.t 47) 0), none⟩, ⟨(some 56), (.extract (.t 47) 1), none⟩, ⟨(some 11), (.alloc 55 [(.int .i64 0), (.int .i64 0), (.str []), (.str []), (.str []), (.str []), (.str []), (.int .i64 0), (.int .i64 0), .nils]), none⟩, ⟨none, (.store (some 10) (.t 11) (.t 55)), none⟩, ⟨(some 12), (.mov (.t 56)), none⟩] [0, 0, 0, 6, 14, 30, 63, 127, 255, 255, 0, 1535, 4095]) (.seq (.seq (.draw [⟨(some 57), (.mov (.t 10)), none⟩, ⟨(some 58), (.un .not (.t 57)), none⟩, ⟨(some 59), (.mov (.t 58)), none⟩, ⟨(some 60), (.mov (.t 12)), (some (59, false))⟩, ⟨(some 61), (.un .not (.t 60)), (some (59, false))⟩, ⟨(some 62), (.pick (.t 59) (.v (.bool true)) (.t 61)), none⟩, ⟨(some 63), (.mov (.t 62)), none⟩, ⟨(some 64), (.faddr 0 (.t 9)), (some (63, false))⟩, ⟨(some 65), (.load none (.t 64)), (some (63, false))⟩, ⟨(some 66), (.faddr 0 (.t 11)), (some (63, false))⟩, ⟨(some 67), (.load none (.t 66)), (some (63, false))⟩, ⟨(some 68), (.bin .neq (.t 65) (.t 67)), (some (63, false))⟩, ⟨(some 69), (.pick (.t 63) (.v (.bool true)) (.t 68)), none⟩, ⟨(some 70), (.mov (.t 69)), none⟩, ⟨(some 71), (.faddr 7 (.t 9)), (some (70, false))⟩, ⟨(some 72), (.load none (.t 71)), (some (70, false))⟩, ⟨(some 73), (.mov (.t 6)), (some (70, false))⟩, ⟨(some 74), (.mov (.t 8)), (some (70, false))⟩, ⟨(some 75), (.iaddr none 7 (.t 73) (.t 74)), (some (70, false))⟩, ⟨(some 76), (.faddr 1 (.t 75)), (some (70, false))⟩, ⟨(some 77), (.load none (.t 76)), (some (70, false))⟩, ⟨(some 78), (.bin .neq (.t 72) (.t 77)), (some (70, false))⟩, ⟨(some 79), (.pick (.t 70) (.v (.bool true)) (.t 78)), none⟩, ⟨(some 80), (.mov (.t 79)), none⟩, ⟨(some 81), (.faddr 8 (.t 9)), (some (80, false))⟩, ⟨(some 82), (.load none (.t 81)), (some (80, false))⟩, ⟨(some 83), (.mov (.t 6)), (some (80, false))⟩, ⟨(some 84), (.mov (.t 8)), (some (80, false))⟩, ⟨(some 85), (.iaddr none 7 (.t 83) (.t 84)), (some (80, false))⟩, ⟨(some 86), (.faddr 2 (.t 85)), (some (80, false))⟩, ⟨(some 87), (.load none (.t 86)), (some (80, false))⟩, ⟨(some 88), (.bin .neq (.t 82) (.t 87)), (some (80, false))⟩, ⟨(some 89), (.pick (.t 80) (.v (.bool true)) (.t 88)), none⟩] [0, 1, 3, 7, 15, 31, 63, 127, 255, 127, 639, 2047, 4095, 8191, 16383, 32767, 16383, 16383, 212991, 475135, 999423, 2097151, 4194303, 8388607, 16777215, 33554431, 16777215, 16777215, 218103807, 486539263, 1023410175, 2147483647, 4294967295]) (.cond (.t 89) (.seq (.ops [⟨(some 2), (.mov (.v (.bool false))), none⟩]) .ret) .skip)) (.seq (.ops [⟨(some 13), (.mov (.v (.int .i64 0))), none⟩]) (.block 2 (.loop (.seq (.seq (.ops [⟨(some 90), (.mov (.t 13)), none⟩, ⟨(some 91), (.mov (.t 8)), none⟩, ⟨(some 92), (.bin .lss (.t 90) (.t 91)), none⟩]) (.cond (.t 92) .skip (.exit 2))) (.seq (.block 3 (.seq (.draw [⟨(some 95), (.mov (.t 6)), none⟩, ⟨(some 96), (.mov (.t 13)), none⟩, ⟨(some 97), (.iaddr none 7 (.t 95) (.t 96)), none⟩, ⟨(some 98), (.faddr 0 (.t 97)), none⟩, ⟨(some 99), (.load none (.t 98)), none⟩, ⟨(some 100), (.mov (.t 6)), none⟩, ⟨(some 101), (.mov (.t 8)), none⟩, ⟨(some 102), (.iaddr none 7 (.t 100) (.t 101)), none⟩, ⟨(some 103), (.faddr 0 (.t 102)), none⟩, ⟨(some 104), (.load none (.t 103)), none⟩, ⟨(some 105), (.bin .eql (.t 99) (.t 104)), none⟩] [0, 0, 3, 7, 15, 0, 0, 96, 224, 480, 1023]) (.cond (.t 105) (.seq (.ops [⟨(some 2), (.mov (.v (.bool false))), none⟩]) .ret) .skip))) (.ops [⟨(some 93), (.mov (.t 13)), none⟩, ⟨(some 94), (.bin .add (.t 93) (.v (.int .i64 1))), none⟩, ⟨(some 13), (.mov (.t 94)), none⟩])))))))))) (.ops [⟨(some 35), (.mov (.t 8)), none⟩, ⟨(some 36), (.bin .add (.t 35) (.v (.int .i64 1))), none⟩, ⟨(some 8), (.mov (.t 36)), none⟩])))))) (.seq (.seq (.ops [⟨(some 14), (.mov (.v (.int .i64 0))), none⟩]) (.block 4 (.loop (.seq (.seq (.ops [⟨(some 106), (.mov (.t 14)), none⟩, ⟨(some 107), (.mov (.t 7)), none⟩, ⟨(some 108), (.len .sl (.t 107)), none⟩, ⟨(some 109), (.bin .lss (.t 106) (.t 108)), none⟩]) (.cond (.t 109) .skip (.exit 4))) (.seq (.block 5 (.seq (.ops [⟨(some 15), (.mov (.v (.bool false))), none⟩]) (.seq (.seq (.ops [⟨(some 16), (.mov (.v (.int .i64 0))), none⟩]) (.block 6 (.loop (.seq (.seq (.ops [⟨(some 112), (.mov (.t 16)), none⟩, ⟨(some 113), (.mov (.t 6)), none⟩, ⟨(some 114), (.len .sl (.t 113)), none⟩, ⟨(some 115), (.bin .lss (.t 112) (.t 114)), none⟩]) (.cond (.t 115) .skip (.exit 6))) (.seq (.block 7 (.draw [⟨(some 118), (.mov (.t 15)), none⟩, ⟨(some 119), (.mov (.t 118)), none⟩, ⟨(some 120), (.mov (.t 6)), (some (119, false))⟩, ⟨(some 121), (.mov (.t 16)), (some (119, false))⟩, ⟨(some 122), (.iaddr none 7 (.t 120) (.t 121)), (some (119, false))⟩, ⟨(some 123), (.faddr 0 (.t 122)), (some (119, false))⟩, ⟨(some 124), (.load none (.t 123)), (some (119, false))⟩, ⟨(some 125), (.mov (.t 7)), (some (119, false))⟩, ⟨(some 126), (.mov (.t 14)), (some (119, false))⟩, ⟨(some 127), (.iaddr none 3 (.t 125) (.t 126)), (some (119, false))⟩, ⟨(some 128), (.faddr 1 (.t 127)), (some (119, false))⟩, ⟨(some 129), (.load none (.t 128)), (some (119, false))⟩, ⟨(some 130), (.bin .eql (.t 124) (.t 129)), (some (119, false))⟩, ⟨(some 131), (.mov (.t 130)), (some (119, false))⟩, ⟨(some 132), (.mov (.t 6)), (some (131, true))⟩, ⟨(some 133), (.mov (.t 16)), (some (131, true))⟩, ⟨(some 134), (.iaddr none 7 (.t 132) (.t 133)), (some (131, true))⟩, ⟨(some 135), (.faddr 6 (.t 134)), (some (131, true))⟩, ⟨(some 136), (.load none (.t 135)), (some (131, true))⟩, ⟨(some 137), (.mov (.t 7)), (some (131, true))⟩, ⟨(some 138), (.mov (.t 14)), (some (131, true))⟩, ⟨(some 139), (.iaddr none 3 (.t 137) (.t 138)), (some (131, true))⟩, ⟨(some 140), (.faddr 2 (.t 139)), (some (131, true))⟩, ⟨(some 141), (.load none (.t 140)), (some (131, true))⟩, ⟨(some 142), (.bin .eql (.t 136) (.t 141)), (some (131, true))⟩, ⟨(some 143), (.pick (.t 131) (.t 142) (.v (.bool false))), (some (119, false))⟩, ⟨(some 144), (.pick (.t 119) (.v (.bool true)) (.t 143)), none⟩, ⟨(some 15), (.mov (.t 144)), none⟩] [0, 1, 3, 3, 15, 31, 63, 3, 3, 387, 899, 1923, 4095, 8191, 16383, 16383, 65535, 131071, 262143, 16383, 16383, 1589247, 3686399, 7880703, 16777215, 33554431, 67108863, 134217727])) (.ops [⟨(some 116), (.mov (.t 16)), none⟩, ⟨(some 117), (.bin .add (.t 116) (.v (.int .i64 1))), none⟩, ⟨(some 16), (.mov (.t 117)), none⟩])))))) (.seq (.ops [⟨(some 145), (.mov (.t 15)), none⟩, ⟨(some 146), (.un .not (.t 145)), none⟩]) (.cond (.t 146) (.seq (.ops [⟨(some 2), (.mov (.v (.bool false))), none⟩]) .ret) .skip))))) (.ops [⟨(some 110), (.mov (.t 14)), none⟩, ⟨(some 111), (.bin .add (.t 110) (.v (.int .i64 1))), none⟩, ⟨(some 14), (.mov (.t 111)), none⟩])))))) (.seq (.ops [⟨(some 147), (.call (.v (.fn (.func 18) [] [])) []), none⟩, ⟨(some 2), (.mov (.t 147)), none⟩]) .ret)))))))), 148, [(.tmp 2)]⟩
theorem c8_ok : compileF Tryz.prog [] 8 = some c8 := by kernel_rfl
def c9 : AFn := ⟨(.seq (.ops [⟨(some 2), (.mov (.v (.bool false))), none⟩]) (.seq (.ops [⟨(some 10), (.mov (.t 0)), none⟩, ⟨(some 11), (.build [.nils, (.int .i64 0)] [(0, (1, (.t 10)))]), none⟩, ⟨(some 12), (.box 25 (.t 11)), none⟩, ⟨(some 3), (.mov (.t 12)), none⟩]) (.seq (.ops [⟨(some 13), (.mov (.t 3)), none⟩, ⟨(some 14), (.call (.v (.fn (.func 10) [] [])) [(.t 13), (.v (.int .i64 9))]), none⟩, ⟨(some 4), (.alloc 28 [.nils]), none⟩, ⟨none, (.store (some 1) (.t 4) (.t 14)), none⟩]) (.seq (.ops [⟨(some 15), (.mov (.t 3)), none⟩, ⟨(some 16), (.load (some 1) (.t 4)), none⟩, ⟨(some 17), (.call (.v (.fn (.func 11) [] [])) [(.t 15), (.t 16)]), none⟩, ⟨(some 5), (.mov (.t 17)), none⟩]) (.seq (.ops [⟨(some 18), (.call (.v (.fn (.func 31) [] [])) []), none⟩, ⟨(some 6), (.mov (.t 18)), none⟩]) (.seq (.seq (.ops [⟨(some 19), (.call (.v (.fn (.func 18) [] [])) []), none⟩, ⟨(some 20), (.un .not (.t 19)), none⟩, ⟨(some 21), (.mov (.t 20)), none⟩, ⟨(some 22), (.mov (.t 6)), (some (21, false))⟩, ⟨(some 23), (.ext (.pnil false) [(.t 22)]), (some (21, false))⟩, ⟨(some 24), (.pick (.t 21) (.v (.bool true)) (.t 23)), none⟩]) (.cond (.t 24) (.seq (.ops [⟨(some 2), (.mov (.v (.bool false))), none⟩]) .ret) .skip)) (.seq (.ops [⟨(some 25), (.load (some 1) (.t 4)), none⟩, ⟨(some 26), (.mov (.t 5)), none⟩, ⟨(some 27), (.call (.v (.fn (.func 13) [] [])) [(.t 25), (.t 26)]), none⟩, ⟨(some 7), (.mov (.t 27)), none⟩]) (.seq (.seq (.ops [⟨(some 8), (.mov (.v (.int .i64 0))), none⟩]) (.block 0 (.loop (.seq (.seq (.ops [⟨(some 28), (.mov (.t 8)), none⟩, ⟨(some 29), (.mov (.t 5)), none⟩, ⟨(some 30), (.len .sl (.t 29)), none⟩, ⟨(some 31), (.bin .lss (.t 28) (.t 30)), none⟩]) (.cond (.t 31) .skip (.exit 0))) (.seq (.block 1 (.seq (.ops [⟨(some 9), (.mov (.v (.int .i64 0))), none⟩]) (.block 2 (.loop (.seq (.seq (.ops [⟨(some 34), (.mov (.t 9)), none⟩, ⟨(some 35), (.mov (.t 7)), none⟩, ⟨(some 36), (.len .sl (.t 35)), none⟩, ⟨(some 37), (.bin .lss (.t 34) (.t 36)), none⟩]) (.cond (.t 37) .skip (.exit 2))) (.seq (.block 3 (.seq (.draw [⟨(some 40), (.mov (.t 7)), none⟩, ⟨(some 41), (.mov (.t 9)), none⟩, ⟨(some 42), (.iaddr none 7 (.t 40) (.t 41)), none⟩, ⟨(some 43), (.faddr 6 (.t 42)), none⟩, ⟨(some 44), (.load none (.t 43)), none⟩, ⟨(some 45), (.mov (.t 5)), none⟩, ⟨(some 46), (.mov (.t 8)), none⟩, ⟨(some 47), (.iaddr none 12 (.t 45) (.t 46)), none⟩, ⟨(some 48), (.faddr 0 (.t 47)), none⟩, ⟨(some 49), (.load none (.t 48)), none⟩, ⟨(some 50), (.bin .eql (.t 44) (.t 49)), none⟩, ⟨(some 51), (.mov (.t 50)), none⟩, ⟨(some 52), (.mov (.t 6)), (some (51, true))⟩, ⟨(some 53), (.mov (.t 5)), (some (51, true))⟩, ⟨(some 54), (.mov (.t 8)), (some (51, true))⟩, ⟨(some 55), (.iaddr none 12 (.t 53) (.t 54)), (some (51, true))⟩, ⟨(some 56), (.faddr 0 (.t 55)), (some (51, true))⟩, ⟨(some 57), (.load none (.t 56)), (some (51, true))⟩, ⟨(some 58), (.mov (.t 7)), (some (51, true))⟩, ⟨(some 59), (.mov (.t 9)), (some (51, true))⟩, ⟨(some 60), (.iaddr none 7 (.t 58) (.t 59)), (some (51, true))⟩, ⟨(some 61), (.faddr 0 (.t 60)), (some (51, true))⟩, ⟨(some 62), (.load none (.t 61)), (some (51, true))⟩, ⟨(some 63), (.mov (.t 5)), (some (51, true))⟩, ⟨(some 64), (.mov (.t 8)), (some (51, true))⟩, ⟨(some 65), (.iaddr none 12 (.t 63) (.t 64)), (some (51, true))⟩, ⟨(some 66), (.faddr 4 (.t 65)), (some (51, true))⟩, ⟨(some 67), (.load none (.t 66)), (some (51, true))⟩, ⟨(some 68), (.mov (.t 5)), (some (51, true))⟩, ⟨(some 69), (.mov (.t 8)), (some (51, true))⟩, ⟨(some 70), (.iaddr none 12 (.t 68) (.t 69)), (some (51, true))⟩, ⟨(some 71), (.faddr 8 (.t 70)), (some (51, true))⟩, ⟨(some 72), (.load none (.t 71)), (some (51, true))⟩, ⟨(some 73), (.call (.v (.fn (.func 32) [] [])) [(.t 52), (.t 57), (.t 62), (.t 67), (.t 72)]), (some (51, true))⟩, ⟨(some 74), (.bin .neq (.t 73) (.v (.int .i64 0))), (some (51, true))⟩, ⟨(some 75), (.pick (.t 51) (.t 74) (.v (.bool false))), none⟩] [0, 0, 3, 7, 15, 0, 0, 96, 224, 480, 1023, 2047, 4095, 4095, 4095, 28671, 61439, 126975, 4095, 4095, 790527, 1839103, 3936255, 4095, 4095, 25169919, 58724351, 125833215, 4095, 4095, 805310463, 1879052287, 4026535935, 8589934591, 17179869183, 34359738367]) (.cond (.t 75) (.seq (.ops [⟨(some 2), (.mov (.v (.bool false))), none⟩]) .ret) .skip))) (.ops [⟨(some 38), (.mov (.t 9)), none⟩, ⟨(some 39), (.bin .add (.t 38) (.v (.int .i64 1))), none⟩, ⟨(some 9), (.mov (.t 39)), none⟩]))))))) (.ops [⟨(some 32), (.mov (.t 8)), none⟩, ⟨(some 33), (.bin .add (.t 32) (.v (.int .i64 1))), none⟩, ⟨(some 8), (.mov (.t 33)), none⟩])))))) (.seq (.draw [⟨(some 76), (.mov (.t 6)), none⟩, ⟨(some 77), (.call (.v (.fn (.func 33) [] [])) [(.t 76)]), none⟩, ⟨(some 78), (.mov (.t 7)), none⟩, ⟨(some 79), (.call (.v (.fn (.func 20) [] [])) [(.t 78)]), none⟩, ⟨(some 80), (.call (.v (.fn (.func 19) [] [])) [(.t 77), (.t 79)]), none⟩, ⟨(some 81), (.mov (.t 80)), none⟩, ⟨(some 82), (.mov (.t 6)), (some (81, true))⟩, ⟨(some 83), (.call (.v (.fn (.func 34) [] [])) [(.t 82)]), (some (81, true))⟩, ⟨(some 84), (.load (some 1) (.t 4)), (some (81, true))⟩, ⟨(some 85), (.mov (.t 5)), (some (81, true))⟩, ⟨(some 86), (.call (.v (.fn (.func 16) [] [])) [(.t 84), (.t 85)]), (some (81, true))⟩, ⟨(some 87), (.call (.v (.fn (.func 15) [] [])) [(.t 83), (.t 86)]), (some (81, true))⟩, ⟨(some 88), (.pick (.t 81) (.t 87) (.v (.bool false))), none⟩, ⟨(some 89), (.mov (.t 88)), none⟩, ⟨(some 90), (.mov (.t 6)), (some (89, true))⟩, ⟨(some 91), (.call (.v (.fn (.func 35) [] [])) [(.t 90)]), (some (89, true))⟩, ⟨(some 92), (.load (some 1) (.t 4)), (some (89, true))⟩, ⟨(some 93), (.mov (.t 5)), (some (89, true))⟩, ⟨(some 94), (.call (.v (.fn (.func 23) [] [])) [(.t 92), (.t 93)]), (some (89, true))⟩, ⟨(some 95), (.call (.v (.fn (.func 22) [] [])) [(.t 91), (.t 94)]), (some (89, true))⟩, ⟨(some 96), (.pick (.t 89) (.t 95) (.v (.bool false))), none⟩, ⟨(some 2), (.mov (.t 96)), none⟩] [0, 1, 0, 7, 15, 31, 63, 127, 63, 63, 1023, 2047, 4095, 8191, 16383, 32767, 16383, 16383, 262143, 524287, 1048575, 2097151]) .ret))))))))), 97, [(.tmp 2)]⟩
theorem c9_ok : compileF Tryz.prog [] 9 = some c9 := by kernel_rfl
def c29 : AFn := ⟨(.seq (.ops [⟨(some 2), (.box 28 (.t 0)), none⟩, ⟨(some 3), (.box 9 (.t 1)), none⟩, ⟨(some 4), (.alloc 55 [(.int .i64 0), (.int .i64 0), (.str []), (.str []), (.str []), (.str []), (.str []), (.int .i64 0), (.int .i64 0), .nils]), none⟩, ⟨(some 5), (.mov (.v (.bool false))), none⟩]) (.seq (.ops [⟨(some 6), (.load (some 1) (.t 2)), none⟩, ⟨(some 7), (.mkfn (.func 51) [] [(.t 3)]), none⟩, ⟨(some 8), (.call (.v (.fn (.func 50) [] [])) [(.t 6), (.t 7)]), none⟩, ⟨(some 9), (.extract (.t 8) 0), none⟩, ⟨(some 10), (.extract (.t 8) 1), none⟩, ⟨none, (.store (some 10) (.t 4) (.t 9)), none⟩, ⟨(some 5), (.mov (.t 10)), none⟩]) .ret)), 11, [(.cell 4 (some 10)), (.tmp 5)]⟩
theorem c29_ok : compileF Tryz.prog [] 29 = some c29 := by kernel_rfl
def c30 : AFn := ⟨(.seq (.ops [⟨(some 2), (.box 28 (.t 0)), none⟩, ⟨(some 3), (.box 9 (.t 1)), none⟩, ⟨(some 4), (.alloc 55 [(.int .i64 0), (.int .i64 0), (.str []), (.str []), (.str []), (.str []), (.str []), (.int .i64 0), (.int .i64 0), .nils]), none⟩, ⟨(some 5), (.mov (.v (.bool false))), none⟩]) (.seq (.ops [⟨(some 7), (.load (some 1) (.t 2)), none⟩, ⟨(some 8), (.call (.v (.fn (.func 53) [] [])) [(.t 7)]), none⟩, ⟨(some 6), (.alloc 94 [.nils, .nilm, .nilm]), none⟩, ⟨none, (.store (some 3) (.t 6) (.t 8)), none⟩]) (.seq (.ops [⟨(some 9), (.load (some 1) (.t 2)), none⟩, ⟨(some 10), (.mkfn (.func 54) [] [(.t 6), (.t 3)]), none⟩, ⟨(some 11), (.call (.v (.fn (.func 50) [] [])) [(.t 9), (.t 10)]), none⟩, ⟨(some 12), (.extract (.t 11) 0), none⟩, ⟨(some 13), (.extract (.t 11) 1), none⟩, ⟨none, (.store (some 10) (.t 4) (.t 12)), none⟩, ⟨(some 5), (.mov (.t 13)), none⟩]) .ret))), 14, [(.cell 4 (some 10)), (.tmp 5)]⟩
theorem c30_ok : compileF Tryz.prog [] 30 = some c30 := by kernel_rfl
def c50 : AFn := ⟨(.seq (.ops [⟨(some 2), (.box 28 (.t 0)), none⟩, ⟨(some 4), (.alloc 55 [(.int .i64 0), (.int .i64 0), (.str []), (.str []), (.str []), (.str []), (.str []), (.int .i64 0), (.int .i64 0), .nils]), none⟩, ⟨(some 5), (.mov (.v (.bool false))), none⟩]) (.seq (.ops [⟨(some 7), (.faddr 0 (.t 2)), none⟩, ⟨(some 8), (.load none (.t 7)), none⟩, ⟨(some 9), (.mov (.t 1)), none⟩, ⟨(some 10), (.call (.v (.fn (.func 86) [] [])) [(.t 8), (.t 9)]), none⟩, ⟨(some 6), (.mov (.t 10)), none⟩]) (.seq (.seq (.ops [⟨(some 11), (.mov (.t 6)), none⟩, ⟨(some 12), (.bin .lss (.t 11) (.v (.int .i64 0))), none⟩]) (.cond (.t 12) (.seq (.ops [⟨(some 13), (.build [(.int .i64 0), (.int .i64 0), (.str []), (.str []), (.str []), (.str []), (.str []), (.int .i64 0), (.int .i64 0), .nils] []), none⟩, ⟨none, (.store (some 10) (.t 4) (.t 13)), none⟩, ⟨(some 5), (.mov (.v (.bool false))), none⟩]) .ret) .skip)) (.seq (.ops [⟨(some 14), (.faddr 0 (.t 2)), none⟩, ⟨(some 15), (.load none (.t 14)), none⟩, ⟨(some 16), (.mov (.t 6)), none⟩, ⟨(some 17), (.iaddr none 10 (.t 15) (.t 16)), none⟩, ⟨(some 18), (.load (some 10) (.t 17)), none⟩, ⟨(some 19), (.call (.v (.fn (.func 87) [] [])) [(.t 18)]), none⟩, ⟨none, (.store (some 10) (.t 4) (.t 19)), none⟩, ⟨(some 5), (.mov (.v (.bool true))), none⟩]) .ret)))), 20, [(.cell 4 (some 10)), (.tmp 5)]⟩
theorem c50_ok : compileF Tryz.prog [] 50 = some c50 := by kernel_rfl
def c51 : AFn := ⟨(.seq (.ops [⟨(some 2), (.box 55 (.t 0)), none⟩, ⟨(some 3), (.mov (.v (.bool false))), none⟩]) (.seq (.ops [⟨(some 7), (.load (some 10) (.t 2)), none⟩, ⟨(some 8), (.call (.v (.fn (.func 52) [] [])) [(.t 7)]), none⟩, ⟨(some 6), (.mov (.t 8)), none⟩, ⟨(some 9), (.extract (.t 6) 0), none⟩, ⟨(some 10), (.extract (.t 6) 1), none⟩, ⟨(some 4), (.mov (.t 9)), none⟩, ⟨(some 5), (.mov (.t 10)), none⟩]) (.seq (.ops [⟨(some 11), (.mov (.t 5)), none⟩, ⟨(some 12), (.mov (.t 11)), none⟩, ⟨(some 13), (.mov (.t 4)), (some (12, true))⟩, ⟨(some 14), (.load none (.t 1)), (some (12, true))⟩, ⟨(some 15), (.bin .eql (.t 13) (.t 14)), (some (12, true))⟩, ⟨(some 16), (.pick (.t 12) (.t 15) (.v (.bool false))), none⟩, ⟨(some 3), (.mov (.t 16)), none⟩]) .ret))), 17, [(.tmp 3)]⟩
theorem c51_ok : compileF Tryz.prog [] 51 = some c51 := by kernel_rfl
def c53 : AFn := ⟨(.seq (.ops [⟨(some 1), (.box 28 (.t 0)), none⟩, ⟨(some 2), (.alloc 94 [.nils, .nilm, .nilm]), none⟩]) (.seq (.ops [⟨(some 7), (.faddr 0 (.t 1)), none⟩, ⟨(some 8), (.load none (.t 7)), none⟩, ⟨(some 9), .mkmap, none⟩, ⟨(some 10), .mkmap, none⟩, ⟨(some 11), (.build [.nils, .nilm, .nilm] [(0, (1, (.t 8))), (1, (1, (.t 9))), (2, (1, (.t 10)))]), none⟩, ⟨(some 3), (.alloc 94 [.nils, .nilm, .nilm]), none⟩, ⟨none, (.store (some 3) (.t 3) (.t 11)), none⟩]) (.seq (.seq (.ops [⟨(some 12), (.faddr 0 (.t 1)), none⟩, ⟨(some 13), (.load none (.t 12)), none⟩, ⟨(some 14), (.len .sl (.t 13)), none⟩, ⟨(some 15), (.mov (.v (.int .i64 0))), none⟩]) (.block 0 (.loop (.seq (.ops [⟨(some 16), (.bin .lss (.t 15) (.t 14)), none⟩]) (.seq (.cond (.t 16) .skip (.exit 0)) (.seq (.block 1 (.seq (.ops [⟨(some 17), (.mov (.t 15)), none⟩, ⟨(some 18), (.iaddr none 10 (.t 13) (.t 15)), none⟩, ⟨(some 19), (.load (some 10) (.t 18)), none⟩, ⟨(some 5), (.alloc 55 [(.int .i64 0), (.int .i64 0), (.str []), (.str []), (.str []), (.str []), (.str []), (.int .i64 0), (.int .i64 0), .nils]), none⟩, ⟨(some 4), (.mov (.t 17)), none⟩, ⟨none, (.store (some 10) (.t 5) (.t 19)), none⟩]) (.seq (.ops [⟨(some 20), (.faddr 2 (.t 3)), none⟩, ⟨(some 21), (.load none (.t 20)), none⟩, ⟨(some 22), (.faddr 1 (.t 5)), none⟩, ⟨(some 23), (.load none (.t 22)), none⟩, ⟨(some 24), (.lookup (.int .i64) (.str []) false (.t 21) (.t 23)), none⟩, ⟨(some 25), (.bin .add (.t 24) (.v (.str [47]))), none⟩, ⟨(some 26), (.faddr 3 (.t 5)), none⟩, ⟨(some 27), (.load none (.t 26)), none⟩, ⟨(some 28), (.bin .add (.t 25) (.t 27)), none⟩, ⟨(some 6), (.mov (.t 28)), none⟩]) (.draw [⟨(some 29), (.faddr 1 (.t 3)), none⟩, ⟨(some 30), (.load none (.t 29)), none⟩, ⟨(some 31), (.faddr 0 (.t 5)), none⟩, ⟨(some 32), (.load none (.t 31)), none⟩, ⟨(some 33), (.faddr 2 (.t 3)), none⟩, ⟨(some 34), (.load none (.t 33)), none⟩, ⟨(some 35), (.faddr 0 (.t 5)), none⟩, ⟨(some 36), (.load none (.t 35)), none⟩, ⟨(some 37), (.mov (.t 4)), none⟩, ⟨(some 38), (.mov (.t 6)), none⟩, ⟨none, (.mapset (.int .i64) (.t 30) (.t 32) (.t 37)), none⟩, ⟨none, (.mapset (.int .i64) (.t 34) (.t 36) (.t 38)), none⟩] [0, 1, 0, 4, 0, 16, 0, 64, 0, 0, 271, 2047])))) (.ops [⟨(some 39), (.bin .add (.t 15) (.v (.int .i64 1))), none⟩, ⟨(some 15), (.mov (.t 39)), none⟩]))))))) (.seq (.ops [⟨(some 40), (.load (some 3) (.t 3)), none⟩, ⟨none, (.store (some 3) (.t 2) (.t 40)), none⟩]) .ret)))), 41, [(.cell 2 (some 3))]⟩
theorem c53_ok : compileF Tryz.prog [] 53 = some c53 := by kernel_rfl
def c54 : AFn := ⟨(.seq (.ops [⟨(some 3), (.box 55 (.t 0)), none⟩, ⟨(some 4), (.mov (.v (.bool false))), none⟩]) (.seq (.ops [⟨(some 5), (.faddr 2 (.t 1)), none⟩, ⟨(some 6), (.load none (.t 5)), none⟩, ⟨(some 7), (.faddr 0 (.t 3)), none⟩, ⟨(some 8), (.load none (.t 7)), none⟩, ⟨(some 9), (.lookup (.int .i64) (.str []) false (.t 6) (.t 8)), none⟩, ⟨(some 10), (.load none (.t 2)), none⟩, ⟨(some 11), (.bin .eql (.t 9) (.t 10)), none⟩, ⟨(some 4), (.mov (.t 11)), none⟩]) .ret)), 12, [(.tmp 4)]⟩
theorem c54_ok : compileF Tryz.prog [] 54 = some c54 := by kernel_rfl
def c86 : AFn := ⟨(.seq (.ops [⟨(some 4), (.mov (.v (.int .i64 0))), none⟩]) (.seq (.seq (.ops [⟨(some 6), (.mov (.t 0)), none⟩, ⟨(some 7), (.len .sl (.t 6)), none⟩, ⟨(some 8), (.mov (.v (.int .i64 0))), none⟩]) (.block 0 (.loop (.seq (.ops [⟨(some 9), (.bin .lss (.t 8) (.t 7)), none⟩]) (.seq (.cond (.t 9) .skip (.exit 0)) (.seq (.block 1 (.seq (.ops [⟨(some 10), (.mov (.t 8)), none⟩, ⟨(some 5), (.mov (.t 10)), none⟩]) (.seq (.ops [⟨(some 11), (.mov (.t 1)), none⟩, ⟨(some 12), (.mov (.t 0)), none⟩, ⟨(some 13), (.mov (.t 5)), none⟩, ⟨(some 14), (.iaddr none 10 (.t 12) (.t 13)), none⟩, ⟨(some 15), (.load (some 10) (.t 14)), none⟩, ⟨(some 16), (.call (.t 11) [(.t 15)]), none⟩]) (.cond (.t 16) (.seq (.ops [⟨(some 17), (.mov (.t 5)), none⟩, ⟨(some 4), (.mov (.t 17)), none⟩]) .ret) .skip)))) (.ops [⟨(some 18), (.bin .add (.t 8) (.v (.int .i64 1))), none⟩, ⟨(some 8), (.mov (.t 18)), none⟩]))))))) (.seq (.ops [⟨(some 4), (.mov (.v (.int .i64 (-1)))), none⟩]) .ret))), 19, [(.tmp 4)]⟩
theorem c86_ok : compileF Tryz.prog [] 86 = some c86 := by kernel_rfl
def c87 : AFn := ⟨(.seq (.ops [⟨(some 1), (.box 55 (.t 0)), none⟩, ⟨(some 2), (.alloc 55 [(.int .i64 0), (.int .i64 0), (.str []), (.str []), (.str []), (.str []), (.str []), (.int .i64 0), (.int .i64 0), .nils]), none⟩]) (.seq (.ops [⟨(some 3), (.faddr 9 (.t 1)), none⟩, ⟨(some 4), (.load none (.t 3)), none⟩, ⟨(some 5), (.call (.v (.fn (.func 130) [] [])) [(.t 4)]), none⟩, ⟨(some 6), (.faddr 9 (.t 1)), none⟩, ⟨none, (.store none (.t 6) (.t 5)), none⟩]) (.seq (.ops [⟨(some 7), (.load (some 10) (.t 1)), none⟩, ⟨none, (.store (some 10) (.t 2) (.t 7)), none⟩]) .ret))), 8, [(.cell 2 (some 10))]⟩
theorem c87_ok : compileF Tryz.prog [] 87 = some c87 := by kernel_rfl
def c130 : AFn := ⟨(.seq (.ops [⟨(some 2), (.mov (.v .nils)), none⟩]) (.seq (.seq (.ops [⟨(some 3), (.mov (.t 0)), none⟩, ⟨(some 4), (.eqnil false (.t 3)), none⟩]) (.cond (.t 4) (.seq (.ops [⟨(some 2), (.mov (.v .nils)), none⟩]) .ret) .skip)) (.seq (.ops [⟨(some 5), (.bslice 145 2 true []), none⟩, ⟨(some 6), (.mov (.t 0)), none⟩, ⟨(some 7), (.append 145 2 32 (.t 5) (.t 6)), none⟩, ⟨(some 2), (.mov (.t 7)), none⟩]) .ret))), 8, [(.tmp 2)]⟩
theorem c130_ok : compileF Tryz.prog [5] 130 = some c130 := by kernel_rfl
end Go.Ab
namespace Go.Ab
open Go Go.Proofs Go.Sort
section
variable {T : List Dvc} {rs : List Rcd}
theorem nodeD_inj {S : Dvc → Prop} (hT : TreeOk S T) {d e : Dvc} (hd : d ∈ T) (he : e ∈ T) {s : Txt} (h1 : nodeD d = some s) (h2 : nodeD e = some s) : d = e := by
  have hc : clashB d e = true := by simp [clashB, h1, h2]
  have hc2 : clashB e d = true := by rw [clash_symm]; exact hc
  obtain ⟨i, hi, rfl⟩ := List.mem_iff_getElem.1 hd
  obtain ⟨j, hj, rfl⟩ := List.mem_iff_getElem.1 he
  have hp := List.pairwise_iff_getElem.1 hT.cl
  rcases Nat.lt_trichotomy i j with h3 | h3 | h3
  · have := hp i j hi hj h3; rw [hc] at this; cases this
  · subst h3; rfl
  · have := hp j i hj hi h3; rw [hc2] at this; cases this
theorem place_inj (h : Nok T rs) {d e : Dvc} (hd : d ∈ T) (he : e ∈ T) (hp : placeT T d.idx = placeT T e.idx) : d = e :=
  org_inj h.t hd he (by rw [← (place_T h.t (fun _ x => x.o) hd).2, hp, (place_T h.t (fun _ x => x.o) he).2])
theorem ndOf_at {d : Dvc} {n : Nd} (h : n ∈ ndOf rs d) : nodeD d = some n.name ∧ n.kind = d.kind ∧ n.num = d.num ∧ ∃ r, ofR rs d.idx = some r ∧ n.path = r.path := by
  unfold ndOf at h
  split at h
  · rename_i s r h1 h2
    rw [List.mem_singleton] at h
    subst h
    exact ⟨h1, rfl, rfl, r, h2, rfl⟩
  · cases h
theorem nd_dev (h : Nok T rs) {n : Nd} (hn : n ∈ mkN T rs) : ∃ d ∈ T, nodeD d = some n.name ∧ n.kind = d.kind ∧ n.num = d.num ∧ n.path = placeT T d.idx ∧ ∃ r ∈ rs, ofR rs d.idx = some r ∧ n.path = r.path := by
  obtain ⟨d, hd, hn⟩ := List.mem_flatMap.1 hn
  obtain ⟨h1, h2, h3, r, h4, h5⟩ := ndOf_at hn
  obtain ⟨h6, h7⟩ := ofR_some h4
  exact ⟨d, hd, h1, h2, h3, by rw [h5, (h.r.r r h6).path_eq h7], r, h6, h4, h5⟩
theorem names_df (h : Nok T rs) : (mkN T rs).Pairwise fun a b => a.name ≠ b.name := by
  unfold mkN
  rw [List.pairwise_flatMap]
  refine ⟨fun d _ => ?_, h.t.cl.imp fun {a b} hc x hx y hy e => ?_⟩
  · unfold ndOf; split <;> simp
  · have h1 := (ndOf_at hx).1
    have h2 := (ndOf_at hy).1
    rw [← e] at h2
    have : clashB a b = true := by simp [clashB, h1, h2]
    rw [hc] at this; cases this
theorem names_at (h : Nok T rs) {i j : Nat} (hi : i < (mkN T rs).length) (hj : j < (mkN T rs).length) (hij : j < i) : (mkN T rs)[j].name ≠ (mkN T rs)[i].name := List.pairwise_iff_getElem.1 (names_df h) j i hj hi hij
theorem lnk_nd (h : Nok T rs) {x : Lk} (hx : x ∈ lnkN T rs) : ∃ n ∈ mkN T rs, n.name = x.node ∧ n.path = x.path := by
  have hr := refR_ok pord (h.okc.sub (O' := opn (nmN (mkN T rs)) (mkC T rs)) List.filter_sublist)
  obtain ⟨c, hc, rfl, _⟩ := (hr.mem x).1 hx
  obtain ⟨d, hd, hm⟩ := List.mem_flatMap.1 (List.mem_filter.1 hc.1).1
  unfold clOfD at hm
  split at hm
  · rename_i s r h1 h2
    obtain ⟨y, _, rfl⟩ := List.mem_map.1 hm
    exact ⟨⟨s, d.kind, d.num, r.owner, r.group, r.mode, r.path⟩, List.mem_flatMap.2 ⟨d, hd, by simp [ndOf, h1, h2]⟩, rfl, rfl⟩
  · cases hm
def nodeP (s : Txt) (d : Dvc) : Bool := decide (nodeD d = some s)
def placeP (T : List Dvc) (s : Txt) (d : Dvc) : Bool := decide (placeT T d.idx = s)
theorem first_at {p : Dvc → Bool} {d : Dvc} (hd : d ∈ T) (hp : p d = true) (hu : ∀ e ∈ T, p e = true → e = d) : ∃ i, ∃ h : i < T.length, T.findIdx? p = some i ∧ T[i] = d := by
  cases hf : T.findIdx? p with
  | none => rw [List.findIdx?_eq_none_iff] at hf; rw [hf d hd] at hp; cases hp
  | some i =>
    obtain ⟨h1, h2, _⟩ := List.findIdx?_eq_some_iff_getElem.1 hf
    exact ⟨i, h1, rfl, hu _ (List.getElem_mem _) h2⟩
/-- A node's name and its place both lead to its device. -/
theorem nd_once (h : Nok T rs) {n : Nd} (hn : n ∈ mkN T rs) : ∃ i, ∃ hi : i < T.length, T.findIdx? (nodeP n.name) = some i ∧ T.findIdx? (placeP T n.path) = some i ∧ T[i].kind = n.kind ∧ T[i].num = n.num := by
  obtain ⟨d, hd, h1, h2, h3, h4, _⟩ := nd_dev h hn
  obtain ⟨i, hi, e1, e2⟩ := first_at (p := nodeP n.name) hd (by simp [nodeP, h1]) fun e he hp => nodeD_inj h.t he hd (by simpa [nodeP] using hp) h1
  obtain ⟨j, hj, e3, e4⟩ := first_at (p := placeP T n.path) hd (by simp [placeP, h4]) fun e he hp => place_inj h he hd (by simpa [placeP, h4] using hp)
  have hij : i = j := by
    have hp := List.pairwise_iff_getElem.1 h.t.nd
    rcases Nat.lt_trichotomy i j with h5 | h5 | h5
    · exact absurd (by rw [e2, e4]) (hp i j hi hj h5)
    · exact h5
    · exact absurd (by rw [e2, e4]) (hp j i hj hi h5)
  subst hij
  exact ⟨i, hi, e1, e3, by rw [e2, h2], by rw [e2, h3]⟩
end
end Go.Ab
namespace Go.Ab
open Go Go.Proofs Go.Sort
section
variable {T : List Dvc} {rs : List Rcd}
theorem set_mem {w : List Dv} {p n : Txt} {l : List Txt} {q : Int} (ho : okSet p n l q = true) (hc : clashW w p n = false) {d : Dv} : d ∈ setW w p n l q ↔ d = (p, ⟨n, setT l, q⟩) ∨ (d ∈ w ∧ d.1 ≠ p) := by
  unfold setW
  rw [if_pos ⟨ho, hc⟩, insD_mem]
  simp [dropD]
theorem set_ok {w : List Dv} {p n : Txt} {l : List Txt} {q : Int} (ho : okSet p n l q = true) (hc : clashW w p n = false) : setE w p n l q = 0 := by
  unfold setE; rw [if_pos ho, hc]; rfl
def dvN (n : Nd) (r : Rcd) : Dv := (r.path, ⟨n.name, setT r.links, r.prio⟩)
def dvOf (rs : List Rcd) (d : Dvc) : Option Dv := match nodeD d, ofR rs d.idx with
  | some s, some r => some (r.path, ⟨s, setT r.links, r.prio⟩)
  | _, _ => none
def tbW (T : List Dvc) (rs : List Rcd) : List Dv := T.filterMap (dvOf rs)
theorem lkS_l : ∀ x ∈ lkS, linkB x = true := by decide +kernel
theorem paths_df (h : Nok T rs) : (mkN T rs).Pairwise fun a b => a.path ≠ b.path := by
  refine (names_df h).imp_of_mem fun {a b} ha hb hn e => ?_
  obtain ⟨d, hd, h1, _, _, h2, _⟩ := nd_dev h ha
  obtain ⟨d', hd', h1', _, _, h2', _⟩ := nd_dev h hb
  have := place_inj h hd hd' (by rw [← h2, e, h2'])
  subst this
  rw [h1] at h1'
  exact hn (Option.some.inj h1')
theorem pair_inj {α β : Type} {f : α → β} : ∀ {l : List α}, (l.Pairwise fun a b => f a ≠ f b) → ∀ {a b}, a ∈ l → b ∈ l → f a = f b → a = b
  | [], _, a, b, ha, _, _ => by cases ha
  | x :: l, h, a, b, ha, hb, e => by
    rw [List.pairwise_cons] at h
    rcases List.mem_cons.1 ha with h1 | h1
    · rcases List.mem_cons.1 hb with h2 | h2
      · rw [h1, h2]
      · exact absurd (by rw [← h1, e]) (h.1 b h2)
    · rcases List.mem_cons.1 hb with h2 | h2
      · exact absurd (by rw [← h2, e]) (h.1 a h1)
      · exact pair_inj h.2 h1 h2 e
theorem rpaths_df (h : Nok T rs) : rs.Pairwise fun a b => a.path ≠ b.path := by
  refine h.r.nd.imp_of_mem fun {a b} ha hb hn e => ?_
  obtain ⟨d, hd, h1⟩ := (h.r.r a ha).d
  obtain ⟨d', hd', h1'⟩ := (h.r.r b hb).d
  have := place_inj h hd hd' (by rw [h1, ← (h.r.r a ha).p, e, (h.r.r b hb).p, h1'])
  subst this
  exact hn (by rw [← h1, h1'])
theorem rpath_place (h : Nok T rs) {r : Rcd} (hr : r ∈ rs) : placeB r.path = true := by
  obtain ⟨d, hd, h1⟩ := (h.r.r r hr).d
  rw [(h.r.r r hr).path_eq h1.symm]
  exact (place_T h.t (fun _ x => x.o) hd).1
theorem set_okN (h : Nok T rs) {n : Nd} (hn : n ∈ mkN T rs) {r : Rcd} (hr : r ∈ rs) : okSet r.path n.name r.links r.prio = true := by
  obtain ⟨d, hd, h1, _⟩ := nd_dev h hn
  have hF := h.t.dv d hd
  have hl : linkB n.name = true := by
    unfold nodeD at h1
    split at h1
    · rename_i hk
      rw [← Option.some.inj h1]
      exact (bcS_l _ (hF.bc hk).1).1
    · cases h1
  have hp := rpath_place h hr
  have hR := h.r.r r hr
  unfold okSet
  simp only [Bool.and_eq_true, decide_eq_true_eq, List.all_eq_true]
  refine ⟨⟨⟨⟨?_, hl⟩, hR.pr.1⟩, hR.pr.2⟩, fun x hx => lkS_l x (hR.ls x hx)⟩
  unfold placeB at hp
  cases hq : pathL r.path with
  | none => rw [hq] at hp; cases hp
  | some l => rfl
/-- What a table holds after the records of R with the nodes of N, and one record more with the nodes of M. -/
structure Holds (T : List Dvc) (rs : List Rcd) (i k : Nat) (w : List Dv) : Prop where
  m : ∀ d, d ∈ w ↔ (∃ r ∈ rs.take i, ∃ n ∈ mkN T rs, n.path = r.path ∧ d = dvN n r) ∨ ∃ h : i < rs.length, ∃ n ∈ (mkN T rs).take k, n.path = rs[i].path ∧ d = dvN n rs[i]
theorem Holds.zero : Holds T rs 0 0 [] := ⟨fun d => by simp⟩
theorem Holds.from (_h : Nok T rs) {i k : Nat} {w : List Dv} (hw : Holds T rs i k w) : ∀ d ∈ w, ∃ r ∈ rs, ∃ n ∈ mkN T rs, n.path = r.path ∧ d = dvN n r := fun d hd => by
  rcases (hw.m d).1 hd with ⟨r, hr, n, hn, e⟩ | ⟨hi, n, hn, e⟩
  · exact ⟨r, List.mem_of_mem_take hr, n, hn, e⟩
  · exact ⟨_, List.getElem_mem hi, n, List.mem_of_mem_take hn, e⟩
theorem Holds.clash (h : Nok T rs) {i k : Nat} {w : List Dv} (hw : Holds T rs i k w) {n : Nd} (hn : n ∈ mkN T rs) {p : Txt} (hp : n.path = p) : clashW w p n.name = false := by
  rw [clashW, List.any_eq_false]
  intro d hd
  obtain ⟨r, _, n', hn', e1, rfl⟩ := hw.from h d hd
  by_cases e : n'.name = n.name
  · have := pair_inj (names_df h) hn' hn e
    subst this
    have e2 : (dvN n' r).1 = p := by rw [← hp, e1]; rfl
    simp [e2]
  · simp [dvN, e]
theorem Holds.skip {i k : Nat} {w : List Dv} (hw : Holds T rs i k w) (hi : i < rs.length) (hk : k < (mkN T rs).length) (he : (mkN T rs)[k].path ≠ rs[i].path) : Holds T rs i (k + 1) w := by
  refine ⟨fun d => ?_⟩
  rw [hw.m d, List.take_succ_eq_append_getElem hk]
  refine or_congr Iff.rfl ⟨fun ⟨h1, n, hn, e⟩ => ⟨h1, n, List.mem_append_left _ hn, e⟩, fun ⟨h1, n, hn, e⟩ => ?_⟩
  rcases List.mem_append.1 hn with hn | hn
  · exact ⟨h1, n, hn, e⟩
  · rw [List.mem_singleton.1 hn] at e; exact absurd e.1 he
theorem Holds.put (h : Nok T rs) {i k : Nat} {w : List Dv} (hw : Holds T rs i k w) (hi : i < rs.length) (hk : k < (mkN T rs).length) (he : (mkN T rs)[k].path = rs[i].path) : Holds T rs i (k + 1) (setW w rs[i].path (mkN T rs)[k].name rs[i].links rs[i].prio) := by
  have hn := List.getElem_mem hk
  have hr := List.getElem_mem hi
  refine ⟨fun d => ?_⟩
  rw [set_mem (set_okN h hn hr) (hw.clash h hn he), hw.m d, List.take_succ_eq_append_getElem hk]
  constructor
  · rintro (rfl | ⟨h1 | ⟨h1, n, hn', e⟩, h3⟩)
    · exact .inr ⟨hi, _, List.mem_append_right _ (List.mem_singleton.2 rfl), he, rfl⟩
    · exact .inl h1
    · exact .inr ⟨h1, n, List.mem_append_left _ hn', e⟩
  · rintro (h1 | ⟨h1, n, hn', e, rfl⟩)
    · refine .inr ⟨.inl h1, ?_⟩
      obtain ⟨r, hr', n, hn', e1, rfl⟩ := h1
      intro e2
      have := pair_inj (rpaths_df h) (List.mem_of_mem_take hr') hr e2
      obtain ⟨j, hj, e3⟩ := List.mem_iff_getElem.1 hr'
      rw [List.length_take] at hj
      rw [List.getElem_take] at e3
      have := List.pairwise_iff_getElem.1 (rpaths_df h) j i (by omega) hi (by omega)
      rw [e3] at this
      exact this e2
    · rcases List.mem_append.1 hn' with hn' | hn'
      · refine .inr ⟨.inr ⟨h1, n, hn', e, rfl⟩, fun _ => ?_⟩
        obtain ⟨j, hj, e3⟩ := List.mem_iff_getElem.1 hn'
        rw [List.length_take] at hj
        rw [List.getElem_take] at e3
        have := List.pairwise_iff_getElem.1 (paths_df h) j k (by omega) hk (by omega)
        rw [e3, e, he] at this
        exact this rfl
      · rw [List.mem_singleton.1 hn']; exact .inl rfl
theorem Holds.next {i : Nat} {w : List Dv} (hw : Holds T rs i (mkN T rs).length w) (hi : i < rs.length) : Holds T rs (i + 1) 0 w := by
  refine ⟨fun d => ?_⟩
  rw [hw.m d, List.take_length, List.take_succ_eq_append_getElem hi, List.take_zero]
  constructor
  · rintro (⟨r, hr, h1⟩ | ⟨_, h1⟩)
    · exact .inl ⟨r, List.mem_append_left _ hr, h1⟩
    · exact .inl ⟨_, List.mem_append_right _ (List.mem_singleton.2 rfl), h1⟩
  · rintro (⟨r, hr, h1⟩ | ⟨_, n, hn, _⟩)
    · rcases List.mem_append.1 hr with hr | hr
      · exact .inl ⟨r, hr, h1⟩
      · rw [List.mem_singleton.1 hr] at h1; exact .inr ⟨hi, h1⟩
    · cases hn
theorem tbW_mem (h : Nok T rs) {d : Dv} : d ∈ tbW T rs ↔ ∃ r ∈ rs, ∃ n ∈ mkN T rs, n.path = r.path ∧ d = dvN n r := by
  unfold tbW
  rw [List.mem_filterMap]
  constructor
  · rintro ⟨e, he, hd⟩
    unfold dvOf at hd
    split at hd
    · rename_i s r h1 h2
      exact ⟨r, (ofR_some h2).1, ⟨s, e.kind, e.num, r.owner, r.group, r.mode, r.path⟩, List.mem_flatMap.2 ⟨e, he, by simp [ndOf, h1, h2]⟩, rfl, (Option.some.inj hd).symm⟩
    · cases hd
  · rintro ⟨r, hr, n, hn, e1, rfl⟩
    obtain ⟨e, he, h1, _, _, _, r', hr', h2, h3⟩ := nd_dev h hn
    have := pair_inj (rpaths_df h) hr hr' (by rw [← e1, h3])
    subst this
    exact ⟨e, he, by simp [dvOf, h1, h2, dvN]⟩
theorem tbW_asc (h : Nok T rs) : (tbW T rs).Pairwise fun a b => ltP a.1 b.1 = true := by
  unfold tbW
  rw [List.pairwise_filterMap]
  refine h.t.so.imp_of_mem fun {a b} ha hb hab x hx y hy => ?_
  unfold dvOf at hx hy
  split at hx
  · split at hy
    · rename_i s r h1 h2 _ _ s' r' h1' h2'
      rw [← Option.some.inj hx, ← Option.some.inj hy]
      obtain ⟨h3, h4⟩ := ofR_some h2
      obtain ⟨h3', h4'⟩ := ofR_some h2'
      show ltP r.path r'.path = true
      rw [(h.r.r r h3).path_eq h4, (h.r.r r' h3').path_eq h4', ltP, decide_eq_true_eq, cmpP, cmpL_lt, (place_T h.t (fun _ x => x.o) ha).2, (place_T h.t (fun _ x => x.o) hb).2]
      exact hab
    · cases hy
  · cases hx
theorem setT_asc {l : List Txt} (h : ascT l) : setT l = l := ascT_ext (setT_ok l).1 h (setT_ok l).2
theorem clm_fm (hs : ∀ r ∈ rs, ascT r.links) : ∀ T : List Dvc, clm (tbW T rs) = mkC T rs
  | [] => rfl
  | d :: T => by
    have ih := clm_fm hs T
    unfold clm tbW mkC at ih ⊢
    rw [List.filterMap_cons, List.flatMap_cons, ← ih]
    unfold dvOf clOfD
    cases h1 : nodeD d with
    | none => simp
    | some s =>
      cases h2 : ofR rs d.idx with
      | none => simp
      | some r => simp [clOf, setT_asc (hs r (ofR_some h2).1)]
theorem nms_fm (rs : List Rcd) : ∀ T : List Dvc, (tbW T rs).map (fun d => d.2.node) = (mkN T rs).map (·.name)
  | [] => rfl
  | d :: T => by
    have ih := nms_fm rs T
    unfold tbW mkN at ih ⊢
    rw [List.filterMap_cons, List.flatMap_cons, List.map_append, ← ih]
    unfold dvOf ndOf
    cases h1 : nodeD d with
    | none => simp
    | some s => cases h2 : ofR rs d.idx <;> simp
theorem Holds.fin (h : Nok T rs) {w : List Dv} (hw : Holds T rs rs.length 0 w) (ha : w.Pairwise fun a b => ltP a.1 b.1 = true) : clm w = mkC T rs ∧ nodesW w = nmN (mkN T rs) ∧ linksW w = lnkN T rs := by
  have e : w = tbW T rs := asc_ext' (fun a b => pord.asym a.1 b.1) ha (tbW_asc h) fun d => by
    rw [hw.m d, tbW_mem h, List.take_length]
    exact ⟨fun hh => hh.resolve_right fun ⟨h1, _⟩ => absurd h1 (Nat.lt_irrefl _), .inl⟩
  have h1 : clm w = mkC T rs := by rw [e]; exact clm_fm (fun r hr => (h.r.r r hr).la) T
  have h2 : nodesW w = nmN (mkN T rs) := by rw [e, nodesW, nms_fm]; rfl
  exact ⟨h1, h2, by unfold linksW lnkN rsv; rw [h1, h2]⟩
end
end Go.Ab
namespace Go.Ab
open Go Go.Proofs Go.Sort
theorem joinP_snoc : ∀ (l : List Txt) (x : Txt), joinP (l ++ [x]) = joinP l ++ 47 :: x
  | [], x => by simp [joinP]
  | y :: l, x => by rw [List.cons_append, joinP, joinP_snoc l x, joinP]; simp
theorem set_int (n : Int) (v : AV) : ∀ L : List (AV × AV), (∀ p ∈ L, ∃ m : Int, p.1 = .int .i64 m ∧ m ≠ n) → setKv (.int .i64 n) v L = L ++ [(.int .i64 n, v)]
  | [], _ => rfl
  | p :: L, h => by
    have ih := set_int n v L fun x hx => h x (by simp [hx])
    obtain ⟨m, h1, h2⟩ := h p (by simp)
    obtain ⟨a, b⟩ := p
    simp only at h1
    subst h1
    have h3 : ¬ n = m := fun e => h2 e.symm
    rw [setKv]
    simp [keyB, scalarEq, h3, ih]
theorem keys_int (n : Int) (L : List (AV × AV)) (h : ∀ p ∈ L, ∃ m : Int, p.1 = .int .i64 m) : keysOk (.int .i64) (.int .i64 n) L := by
  refine ⟨by simp [keyOk], fun p hp => ?_⟩
  obtain ⟨m, h1⟩ := h p hp
  simp [h1, keyOk]
def kvO (T : List Dvc) (d : Dvc) : AV × AV := (.int .i64 d.idx, .str (placeT T d.idx))
def kvP (p : Dvc × Nat) : AV × AV := (.int .i64 p.1.idx, .int .i64 p.2)
theorem find_kvO (T : List Dvc) (n : Int) : ∀ l : List Dvc, findKv (.int .i64 n) (l.map (kvO T)) = (findD l n).map fun d => AV.str (placeT T d.idx)
  | [] => rfl
  | r :: l => by
    have ih := find_kvO T n l
    unfold findD at ih ⊢
    rw [List.map_cons, findKv, List.find?_cons]
    by_cases h : r.idx = n
    · simp [kvO, keyB, scalarEq, h]
    · have h2 : ¬ n = r.idx := fun e => h e.symm
      simp [kvO, keyB, scalarEq, h, h2]
      simpa [kvO] using ih
section
variable {S : Dvc → Prop} {T : List Dvc}
theorem orgL_zero (hT : TreeOk S T) : orgL T 0 = [] := by
  unfold orgL chain
  cases h : T.length with
  | zero => rfl
  | succ f => rw [chainF, findD_none hT (.inl (by omega))]; rfl
theorem orgL_step (hT : TreeOk S T) {d : Dvc} (hd : d ∈ T) : orgL T d.idx = orgL T d.par ++ [d.orig] := by
  have hx := hT.ix d hd
  have hp := hT.par d hd
  obtain ⟨f, hf⟩ : ∃ f, T.length = f + 1 := ⟨T.length - 1, by omega⟩
  unfold orgL chain
  rw [chainF_fuel hT T.length f d.par (by omega) (by omega), hf, chainF, findD_mem hT.nd hd]
  simp
theorem place_step (hT : TreeOk S T) {d : Dvc} (hd : d ∈ T) : placeT T d.idx = placeT T d.par ++ 47 :: d.orig := by
  rw [placeT, orgL_step hT hd, joinP_snoc]; rfl
theorem lt_snoc {l : List Txt} {x : Txt} : ¬ (l ++ [x] < l) := by
  induction l with
  | nil => simp
  | cons y l ih =>
    rw [List.cons_append, List.cons_lt_cons_iff]
    rintro (h | ⟨_, h⟩)
    · exact List.lt_irrefl _ h
    · exact ih h
theorem par_before (hT : TreeOk S T) {i : Nat} (h : i < T.length) (h0 : T[i].par ≠ 0) : ∃ j, ∃ hj : j < i, T[j].idx = T[i].par := by
  have hx := hT.ix _ (List.getElem_mem h)
  have hp := hT.par _ (List.getElem_mem h)
  obtain ⟨e, he, h1⟩ := hT.full T[i].par (by omega) (by omega)
  obtain ⟨j, hj, rfl⟩ := List.mem_iff_getElem.1 he
  have hs := orgL_step hT (List.getElem_mem h)
  rcases Nat.lt_trichotomy j i with h2 | h2 | h2
  · exact ⟨j, h2, h1⟩
  · subst h2; omega
  · have h3 := List.pairwise_iff_getElem.1 hT.so i j h hj h2
    rw [hs, h1] at h3
    exact absurd h3 lt_snoc
theorem look_at (hT : TreeOk S T) {i : Nat} (h : i < T.length) : (findKv (.int .i64 T[i].par) ((T.take i).map (kvO T))).getD (.str []) = .str (placeT T T[i].par) := by
  rw [find_kvO]
  by_cases h0 : T[i].par = 0
  · rw [h0]
    have : findD (T.take i) 0 = none := List.find?_eq_none.2 fun x hx => by
      have := hT.ix x (List.mem_of_mem_take hx)
      simp; omega
    rw [this, placeT, orgL_zero hT]
    rfl
  · obtain ⟨j, hj, h1⟩ := par_before hT h h0
    cases hf : findD (T.take i) T[i].par with
    | none =>
      have hm : T[j] ∈ T.take i := by
        rw [List.mem_take_iff_getElem]
        exact ⟨j, by omega, rfl⟩
      have := List.find?_eq_none.1 hf _ hm
      simp [h1] at this
    | some e =>
      rw [Option.map_some, Option.getD_some, (findD_some hf).2]
theorem kvO_at (hT : TreeOk S T) {d : Dvc} (hd : d ∈ T) : (findKv (.int .i64 d.idx) (T.map (kvO T))).getD (.str []) = .str (placeT T d.idx) := by
  rw [find_kvO, findD_mem hT.nd hd]; rfl
theorem kvO_new (hT : TreeOk S T) {i : Nat} (h : i < T.length) : setKv (.int .i64 T[i].idx) (.str (placeT T T[i].par ++ 47 :: T[i].orig)) ((T.take i).map (kvO T)) = (T.take (i + 1)).map (kvO T) := by
  rw [set_int, List.take_succ_eq_append_getElem h, List.map_append, List.map_singleton, kvO, place_step hT (List.getElem_mem h)]
  intro p hp
  obtain ⟨x, hx, rfl⟩ := List.mem_map.1 hp
  refine ⟨x.idx, rfl, ?_⟩
  obtain ⟨j, hj, rfl⟩ := List.mem_iff_getElem.1 hx
  rw [List.length_take] at hj
  rw [List.getElem_take]
  exact List.pairwise_iff_getElem.1 hT.nd j i (by omega) h (by omega)
theorem kvP_new (hT : TreeOk S T) {i : Nat} (h : i < T.length) : setKv (.int .i64 T[i].idx) (.int .i64 i) ((T.take i).zipIdx.map kvP) = (T.take (i + 1)).zipIdx.map kvP := by
  rw [set_int, List.take_succ_eq_append_getElem h, List.zipIdx_append, List.map_append]
  · simp [kvP]; omega
  intro p hp
  obtain ⟨⟨x, k⟩, hx, rfl⟩ := List.mem_map.1 hp
  refine ⟨x.idx, rfl, ?_⟩
  have hm := List.fst_mem_of_mem_zipIdx hx
  obtain ⟨j, hj, rfl⟩ := List.mem_iff_getElem.1 hm
  rw [List.length_take] at hj
  rw [List.getElem_take]
  exact List.pairwise_iff_getElem.1 hT.nd j i (by omega) h (by omega)
theorem kvO_keys (T l : List Dvc) (n : Int) : keysOk (.int .i64) (.int .i64 n) (l.map (kvO T)) := keys_int n _ fun p hp => by
  obtain ⟨x, _, rfl⟩ := List.mem_map.1 hp
  exact ⟨x.idx, rfl⟩
theorem kvP_keys (l : List (Dvc × Nat)) (n : Int) : keysOk (.int .i64) (.int .i64 n) (l.map kvP) := keys_int n _ fun p hp => by
  obtain ⟨x, _, rfl⟩ := List.mem_map.1 hp
  exact ⟨x.1.idx, rfl⟩
theorem kvO_clm (k : Nat) (T l : List Dvc) : ∀ a b : AV, (a, b) ∈ l.map (kvO T) → closed k a = true ∧ closed k b = true := fun a b h => by
  obtain ⟨r, _, e⟩ := List.mem_map.1 h
  cases e
  exact ⟨rfl, rfl⟩
theorem kvP_clm (k : Nat) (l : List (Dvc × Nat)) : ∀ a b : AV, (a, b) ∈ l.map kvP → closed k a = true ∧ closed k b = true := fun a b h => by
  obtain ⟨r, _, e⟩ := List.mem_map.1 h
  cases e
  exact ⟨rfl, rfl⟩
theorem kvO_ren (is : List Nat) (T : List Dvc) : ∀ l : List Dvc, renKv is (l.map (kvO T)) = l.map (kvO T)
  | [] => rfl
  | x :: l => by rw [List.map_cons, renKv, kvO_ren is T l]; rfl
theorem kvP_ren (is : List Nat) : ∀ l : List (Dvc × Nat), renKv is (l.map kvP) = l.map kvP
  | [] => rfl
  | x :: l => by rw [List.map_cons, renKv, kvP_ren is l]; rfl
theorem place_len {B : Nat} (hT : TreeOk S T) (ho : ∀ d ∈ T, d.orig.length ≤ B) {n : Int} (h : n ≤ T.length) : (placeT T n).length ≤ 7 * (B + 1) := by
  have h1 : (orgL T n).length ≤ 7 := by
    by_cases h0 : n ≤ 0
    · have : orgL T n = [] := by
        unfold orgL chain
        cases h : T.length with
        | zero => rfl
        | succ f => rw [chainF, findD_none hT (.inl (by omega))]; rfl
      rw [this]; simp
    · obtain ⟨d, hd, he⟩ := hT.full n (by omega) h
      rw [← he]; exact hT.dp d hd
  have h2 := joinP_len (B := B) (l := orgL T n) fun x hx => by
    obtain ⟨d, hd, rfl⟩ := orgL_mem hx
    exact ho d hd
  unfold placeT
  exact Nat.le_trans h2 (Nat.mul_le_mul_right _ h1)
end
end Go.Ab
namespace Go.Ab
open Go Go.Proofs Go.Sort
/-- Where nothing clashes, Set's outcome is known ahead. -/
theorem SetD_c {PU U : List Txt} {B : Nat} {m : SMap Own} {w : List Dv} (hF : Few12 PU U) (h : Tbl PU U B m w) (c : Cal) (hc : CalOk PU U c) (hq' : clashW w c.p c.node = false) :
    ∃ m', Tbl PU U (B + 1) m' (setW w c.p c.node c.links c.prio) ∧ ACalls Tryz.prog 32 [.ptr 1 0, .str c.p, .str c.node, .imm (c.links.map sRow), .int .i64 c.prio] (tbO m) (.int .i64 (setE w c.p c.node c.links c.prio)) (tbO m') := by
  have h1 := hc.lp; have h2 := hc.ln; have h3 := hc.ll; have h4 := hc.ls
  unfold setW setE
  cases hok : okSet c.p c.node c.links c.prio with
  | false =>
    exact ⟨m, by simpa using h.le, by simpa using SetBad_c m c.p c.node c.links c.prio (by omega) (by omega) (by omega) (fun x hx => by have := h4 x hx; omega) hok⟩
  | true =>
    have hok2 := hok
    unfold okSet at hok2
    simp only [Bool.and_eq_true, decide_eq_true_eq] at hok2
    obtain ⟨⟨⟨⟨b1, _⟩, _⟩, _⟩, b5⟩ := hok2
    have := h.put hF (p := c.p) (node := c.node) (links := c.links) (prio := c.prio) (hc.p b1) (fun s hs => hc.l s hs (List.all_eq_true.1 b5 s hs)) hc.ln hq'
    refine ⟨_, by simpa [hq'] using this, ACallsR.one ((Set_c m c.p c.node c.links c.prio h.t.o (by omega) (by omega) (by omega) (fun x hx => by have := h4 x hx; omega) hok).mono fun v G hR => ?_)⟩
    rcases hR with ⟨hq, rfl, rfl⟩ | ⟨_, rfl, rfl⟩
    · rw [clash_iff h, hq'] at hq
      cases hq
    · exact ⟨by simp [hq'], rfl⟩
section
variable {T : List Dvc} {rs : List Rcd}
def puN (rs : List Rcd) : List Txt := rs.map (·.path)
theorem few_N (h : Nok T rs) (hr : rs.length ≤ 9) : Few12 (puN rs) lkS := ⟨fun x hx => by
    obtain ⟨r, hr, rfl⟩ := List.mem_map.1 hx
    exact rpath_place h hr, by unfold puN; rw [List.length_map]; omega, by decide, fun s hs => Nat.le_trans (lk_len s hs) (by decide)⟩
def calN (n : Nd) (r : Rcd) : Cal := ⟨false, r.path, n.name, r.links, r.prio⟩
theorem calN_ok (h : Nok T rs) {n : Nd} (hn : n ∈ mkN T rs) {r : Rcd} (hr : r ∈ rs) : CalOk (puN rs) lkS (calN n r) := by
  have hR := h.r.r r hr
  obtain ⟨d, hd, h1⟩ := hR.d
  refine ⟨fun _ => List.mem_map.2 ⟨r, hr, rfl⟩, fun s hs _ => hR.ls s hs, Nat.le_trans (h.B r hr) (by decide), ?_, Nat.le_trans (mkN_name h n hn) (by decide), fun s hs => Nat.le_trans (lk_len s (hR.ls s hs)) (by decide)⟩
  show r.path.length ≤ 1000
  rw [hR.path_eq h1.symm]
  have := place_len h.t (B := 9) (fun e he => (oS_v _ (h.t.dv e he).o).2.2) (n := d.idx) (h.t.ix d hd).2
  omega
/-- One round: the table holds one device more. -/
theorem Holds.step (h : Nok T rs) (hr9 : rs.length ≤ 9) {i k B : Nat} {m : SMap Own} {w : List Dv} (hw : Holds T rs i k w) (hT : Tbl (puN rs) lkS B m w) (hi : i < rs.length) (hk : k < (mkN T rs).length) (he : (mkN T rs)[k].path = rs[i].path) :
    ∃ m' w', Holds T rs i (k + 1) w' ∧ Tbl (puN rs) lkS (B + 1) m' w' ∧ ACalls Tryz.prog 32 [.ptr 1 0, .str rs[i].path, .str (mkN T rs)[k].name, .imm (rs[i].links.map sRow), .int .i64 rs[i].prio] (tbO m) (.int .i64 0) (tbO m') := by
  have hn := List.getElem_mem hk
  have hr := List.getElem_mem hi
  have hq := hw.clash h hn he
  obtain ⟨m', h1, h2⟩ := SetD_c (few_N h hr9) hT (calN (mkN T rs)[k] rs[i]) (calN_ok h hn hr) hq
  have h3 := set_ok (set_okN h hn hr) hq
  refine ⟨m', _, hw.put h hi hk he, h1, ?_⟩
  have h4 : setE w (calN (mkN T rs)[k] rs[i]).p (calN (mkN T rs)[k] rs[i]).node (calN (mkN T rs)[k] rs[i]).links (calN (mkN T rs)[k] rs[i]).prio = 0 := h3
  rw [h4] at h2
  exact h2
end
end Go.Ab
namespace Go.Ab
open Go Go.Proofs Go.Sort
set_option maxRecDepth 20000
structure TN where
  i : Nat
  m : SMap Own
  w : List Dv
set_option maxHeartbeats 16000000 in
theorem NodeTable_c (l : List Int) : ACalls Tryz.prog 9 [tapeVs l] [] (.bool true) [] := by
  have hmc := own_clm
  have hmr := own_renK
  have hcl := fun k (T : List Dvc) => dcRows_cl k T
  have hrl := fun k (l : List Rcd) => rcRows_cl k l
  have hnl := fun k (l : List Nd) => ndRows_cl k l
  have hlc := closedLL_lkRows
  have hcc := closedLL_clRows
  have hlr := renLL_lkRows
  have hcr := renLL_clRows
  have hrd := renLL_dcRows
  have hrr := renLL_rcRows
  have ct : ACallsR Tryz.prog 10 [.ptr 0 0, .int .i64 9] [tapeO l 0] (treeR l 0 9) := tree_c l 0 9 (by omega) (by omega)
  refine acalls_A c9_ok rfl ?_
  unfold c9 tapeVs
  have htc := fun k => tape_closed k l
  refine awp_cut ⟨tmps 97 [(0, .imm (l.map fun v => [.int .i64 v]))], []⟩ (awp_of ?_) ?_
  · simp +decide -dsimp -implicitDefEqProofs [go_sem]
    refine cut_of (by simp) ?_
    simp +decide -dsimp -implicitDefEqProofs [go_sem, htc]
  refine awp_cut ⟨tmps 97 [(3, .ptr 0 0)], [tapeO l 0]⟩ (awp_of ?_) ?_
  · simp +decide -dsimp -implicitDefEqProofs [go_sem]
    refine cut_of (by simp) ?_
    simp +decide -dsimp -implicitDefEqProofs [go_sem, htc, tapeO]
  refine awp_cutX (S := List Dvc × Nat) (fun s => ⟨tmps 97 [(3, .ptr 0 0), (4, .ptr 1 0)], [tapeO l s.2, .box 28 [.imm (s.1.map dcRow)]]⟩) (fun s => TreeOk Fine s.1 ∧ s.1.length ≤ 9 ∧ s.2 ≤ 0 + 1 + 20 * 9) (awp_of ?_) ?_
  · simp +decide -dsimp -implicitDefEqProofs [go_sem]
    refine callE_frameR [0] ct rfl (fun v G ⟨_, _, _, hG, _⟩ => by rw [hG]; rfl) (by simp) (by simp +decide -dsimp -implicitDefEqProofs [go_sem]) (by simp +decide -dsimp -implicitDefEqProofs [go_sem, tapeO_ren]) ?_
    rintro _ _ ⟨T, k, rfl, rfl, hT, hl, hk⟩
    simp +decide -dsimp -implicitDefEqProofs [go_sem, tapeO_ren, hrd]
    refine cutX_of (T, k) ⟨hT, hl, hk⟩ (cut_of (by simp) ?_)
    simp +decide -dsimp -implicitDefEqProofs [go_sem, htc, tapeO, hcl]
  rintro ⟨T, k⟩ ⟨hT, hl, hk⟩
  simp only at hT hl hk ⊢
  have cr := records_c l k T (by omega) hT (by omega)
  refine awp_cutX (S := List Rcd × Nat) (fun s => ⟨tmps 97 [(4, .ptr 1 0), (5, .imm (s.1.map rcRow))], [tapeO l s.2, .box 28 [.imm (T.map dcRow)]]⟩) (fun s => RecsOk T s.1 ∧ s.1.length ≤ T.length) (awp_of ?_) ?_
  · simp +decide -dsimp -implicitDefEqProofs [go_sem]
    refine callE_frameR [0] cr rfl (fun v G ⟨_, _, _, hG, _⟩ => by rw [hG]; rfl) (by simp) (by simp +decide -dsimp -implicitDefEqProofs [go_sem, hrd]) (by simp +decide -dsimp -implicitDefEqProofs [go_sem, tapeO_ren]) ?_
    rintro _ _ ⟨rs, k2, rfl, rfl, hR, hr, hk2⟩
    simp +decide -dsimp -implicitDefEqProofs [go_sem, tapeO_ren, hrr]
    refine cutX_of (rs, k2) ⟨hR, hr⟩ (cut_of (by simp) ?_)
    simp +decide -dsimp -implicitDefEqProofs [go_sem, htc, tapeO, hcl, hrl]
  rintro ⟨rs, k2⟩ ⟨hR, hr⟩
  simp only at hR hr ⊢
  have hN := nok_of hT hl hR hr
  have hr9 : rs.length ≤ 9 := by omega
  have hF := few_N hN hr9
  have hml := mkN_len (T := T) (rs := rs)
  have p1 := hN.mkc
  have p2 := links_c hN
  have p3 := hN.clc
  have p4 := names_c (mkN T rs) (by omega)
  have s1 := sameTexts_c (nmN (mkN T rs)) (by have := nmN_len (mkN T rs); omega)
  have s2 := sameClaims_c (mkC T rs) (by have := hN.cn; omega)
  have s3 := sameLinks_c (lnkN T rs) (by have := hN.len; omega)
  have hz : Holds T rs 0 0 [] := Holds.zero
  have hstep := fun {i k B : Nat} {m : SMap Own} {w : List Dv} (hw : Holds T rs i k w) (hT : Tbl (puN rs) lkS B m w) (hi : i < rs.length) (hk : k < (mkN T rs).length) (he : (mkN T rs)[k].path = rs[i].path) => hw.step hN hr9 hT hi hk he
  have hskip := fun {i k : Nat} {w : List Dv} (hw : Holds T rs i k w) (hi : i < rs.length) (hk : k < (mkN T rs).length) (he : (mkN T rs)[k].path ≠ rs[i].path) => hw.skip hi hk he
  have hnext := fun {i : Nat} {w : List Dv} (hw : Holds T rs i (mkN T rs).length w) (hi : i < rs.length) => hw.next hi
  have hfin := fun {w : List Dv} (hw : Holds T rs rs.length 0 w) (ha : w.Pairwise fun a b => ltP a.1 b.1 = true) => hw.fin hN ha
  generalize lnkN T rs = L at p2 s3 hfin
  generalize mkC T rs = C at p3 s2 hfin
  generalize mkN T rs = N at p1 p4 s1 hml hstep hskip hnext hfin
  have hNl : N.length ≤ 9 := by omega
  generalize Holds T rs = Hd at hz hstep hskip hnext hfin
  refine awp_cut ⟨tmps 97 [(4, .ptr 1 0), (5, .imm (rs.map rcRow)), (6, .ptr 3 0)], [tapeO l k2, .box 28 [.imm (T.map dcRow)], .map [], .box 98 [.map 2]]⟩ (awp_of ?_) ?_
  · simp +decide -dsimp -implicitDefEqProofs [go_sem]
    refine callE_grow [] 2 new_c rfl (fun v G h => by rw [h.2]; rfl) (by show (List.range' 2 2).Nodup; decide) rfl (by simp) ?_
    rintro _ _ ⟨rfl, rfl⟩
    unfold tbO
    simp +decide -dsimp -implicitDefEqProofs [go_sem, hmr, show List.range' 2 2 = [2, 3] from rfl]
    refine cut_of (by simp) ?_
    simp +decide -dsimp -implicitDefEqProofs [go_sem, htc, tapeO, hcl, hrl, smK_nil]
  refine awp_cut ⟨tmps 97 [(4, .ptr 1 0), (5, .imm (rs.map rcRow)), (6, .ptr 3 0)], [tapeO l k2, .box 28 [.imm (T.map dcRow)], .map [], .box 98 [.map 2]]⟩ (awp_of ?_) ?_
  · simp +decide -dsimp -implicitDefEqProofs [go_sem]
    refine callE_pure known_c rfl rfl ?_
    simp +decide -dsimp -implicitDefEqProofs [go_sem]
    refine cut_of (by simp) ?_
    simp +decide -dsimp -implicitDefEqProofs [go_sem, htc, tapeO, hcl, hrl]
  refine awp_cut ⟨tmps 97 [(4, .ptr 1 0), (5, .imm (rs.map rcRow)), (6, .ptr 3 0), (7, .imm (N.map ndRow))], [tapeO l k2, .box 28 [.imm (T.map dcRow)], .map [], .box 98 [.map 2]]⟩ (awp_of ?_) ?_
  · simp +decide -dsimp -implicitDefEqProofs [go_sem]
    refine callE_pure p1 (by simp +decide -dsimp -implicitDefEqProofs [go_sem, hcl, hrl]) (by simp +decide -dsimp -implicitDefEqProofs [go_sem, hnl]) ?_
    simp +decide -dsimp -implicitDefEqProofs [go_sem]
    refine cut_of (by simp) ?_
    simp +decide -dsimp -implicitDefEqProofs [go_sem, htc, tapeO, hcl, hrl, hnl]
  refine awp_cutX (S := SMap Own × List Dv) (fun s => ⟨tmps 97 [(4, .ptr 1 0), (5, .imm (rs.map rcRow)), (6, .ptr 3 0), (7, .imm (N.map ndRow))], [tapeO l k2, .box 28 [.imm (T.map dcRow)], .map (smK ownV s.1), .box 98 [.map 2]]⟩) (fun s => Hd rs.length 0 s.2 ∧ Tbl (puN rs) lkS 81 s.1 s.2) (awp_of ?_) ?_
  · simp +decide -dsimp -implicitDefEqProofs [go_sem]
    refine loop_of (S := TN) (fun s => ⟨tmps 97 [(4, .ptr 1 0), (5, .imm (rs.map rcRow)), (6, .ptr 3 0), (7, .imm (N.map ndRow)), (8, .int .i64 s.i)], [tapeO l k2, .box 28 [.imm (T.map dcRow)], .map (smK ownV s.m), .box 98 [.map 2]]⟩) (fun s => rs.length - s.i) (fun s => s.i ≤ rs.length ∧ Hd s.i 0 s.w ∧ Tbl (puN rs) lkS (s.i * 9) s.m s.w) ⟨0, [], []⟩ ⟨by simp, hz, ⟨.nil, by simp, by simp, by simp, by simp⟩⟩ (cut_of (by simp) ?_) ?_
    · simp +decide -dsimp -implicitDefEqProofs [go_sem, htc, tapeO, hcl, hrl, hnl, smK_nil]
    rintro ⟨i, m, w⟩ ⟨hi, hH, hTb⟩
    simp only at hi hH hTb
    by_cases h : i < rs.length
    · have wi : IntKind.i64.wrap ((i : Int) + 1) = i + 1 := w64 (by omega) (by omega)
      simp +decide -dsimp -implicitDefEqProofs [go_sem, h]
      refine loop_of (S := TN) (fun s => ⟨tmps 97 [(4, .ptr 1 0), (5, .imm (rs.map rcRow)), (6, .ptr 3 0), (7, .imm (N.map ndRow)), (8, .int .i64 i), (9, .int .i64 s.i)], [tapeO l k2, .box 28 [.imm (T.map dcRow)], .map (smK ownV s.m), .box 98 [.map 2]]⟩) (fun s => N.length - s.i) (fun s => s.i ≤ N.length ∧ Hd i s.i s.w ∧ Tbl (puN rs) lkS (i * 9 + s.i) s.m s.w) ⟨0, m, w⟩ ⟨by simp, hH, hTb⟩ (cut_of (by simp) ?_) ?_
      · simp +decide -dsimp -implicitDefEqProofs [go_sem, htc, tapeO, hcl, hrl, hnl]
        exact hmc _ _
      rintro ⟨j, m2, w2⟩ ⟨hj, hH2, hTb2⟩
      simp only at hj hH2 hTb2
      by_cases h3 : j < N.length
      · have wj : IntKind.i64.wrap ((j : Int) + 1) = j + 1 := w64 (by omega) (by omega)
        by_cases he : N[j].path = rs[i].path
        · obtain ⟨m', w', hH', hT', cS⟩ := hstep hH2 hTb2 h h3 he
          unfold tbO at cS
          simp +decide -dsimp -implicitDefEqProofs [go_sem, h, h3, ndRow_eq, rcRow_eq, he]
          refine callDE_frame [2, 3] cS rfl rfl (by simp) (by simp +decide -dsimp -implicitDefEqProofs [go_sem, renLL_sRows]) (by simp +decide -dsimp -implicitDefEqProofs [go_sem, hmr]) ?_
          simp +decide -dsimp -implicitDefEqProofs [go_sem, hmr, wj]
          refine next_of ⟨j + 1, m', w'⟩ ⟨by show j + 1 ≤ N.length; omega, hH', hT'⟩ (by show N.length - (j + 1) < N.length - j; omega) (cut_of (by simp) ?_)
          simp +decide -dsimp -implicitDefEqProofs [go_sem, htc, tapeO, hcl, hrl, hnl]
          exact hmc _ _
        · have hs := hskip hH2 h h3 he
          simp +decide -dsimp -implicitDefEqProofs [go_sem, h, h3, ndRow_eq, rcRow_eq, he, wj]
          refine next_of ⟨j + 1, m2, w2⟩ ⟨by show j + 1 ≤ N.length; omega, hs, hTb2.le⟩ (by show N.length - (j + 1) < N.length - j; omega) (cut_of (by simp) ?_)
          simp +decide -dsimp -implicitDefEqProofs [go_sem, htc, tapeO, hcl, hrl, hnl]
          exact hmc _ _
      · have e : j = N.length := by omega
        subst e
        simp +decide -dsimp -implicitDefEqProofs [go_sem, wi]
        refine next_of ⟨i + 1, m2, w2⟩ ⟨by show i + 1 ≤ rs.length; omega, hnext hH2 h, ⟨hTb2.t, by have := hTb2.ml; show m2.length ≤ (i + 1) * 9; omega, hTb2.pu, hTb2.u, hTb2.nl⟩⟩ (by show rs.length - (i + 1) < rs.length - i; omega) (cut_of (by simp) ?_)
        simp +decide -dsimp -implicitDefEqProofs [go_sem, htc, tapeO, hcl, hrl, hnl]
        exact hmc _ _
    · have e : i = rs.length := by omega
      subst e
      simp +decide -dsimp -implicitDefEqProofs [go_sem]
      refine cutX_of (m, w) ⟨hH, ⟨hTb.t, by have := hTb.ml; show m.length ≤ 81; omega, hTb.pu, hTb.u, hTb.nl⟩⟩ (cut_of (by simp) ?_)
      simp +decide -dsimp -implicitDefEqProofs [go_sem, htc, tapeO, hcl, hrl, hnl]
      exact hmc _ _
  rintro ⟨m, w⟩ ⟨hH, hTb⟩
  simp only at hH hTb ⊢
  obtain ⟨f1, f2, f3⟩ := hfin hH (List.pairwise_map.1 hTb.t.keysN)
  have q1 := Nodes_c hTb.t (by have := hTb.ml; omega)
  have q2 := Claims_c hTb.t (by have := hTb.ml; omega) (hTb.wl hF) (fun d hd => Nat.le_trans (hTb.ll hF d hd) (by decide))
  have q3 := Links_c hF hTb (by omega)
  rw [f2] at q1
  rw [f1] at q2
  rw [f3] at q3
  unfold tbO at q1 q2 q3
  refine awp_of ?_
  simp +decide -dsimp -implicitDefEqProofs [go_sem]
  refine callDE_frame [2, 3] q1 rfl rfl (by simp) (by simp +decide -dsimp -implicitDefEqProofs [go_sem]) (by simp +decide -dsimp -implicitDefEqProofs [go_sem, hmr]) ?_
  simp +decide -dsimp -implicitDefEqProofs [go_sem, hmr, renLL_sRows]
  refine callDE_pure p4 (by simp +decide -dsimp -implicitDefEqProofs [go_sem, hnl]) (by simp +decide -dsimp -implicitDefEqProofs [go_sem]) ?_
  simp +decide -dsimp -implicitDefEqProofs [go_sem]
  refine callDE_pure s1 (by simp +decide -dsimp -implicitDefEqProofs [go_sem]) rfl ?_
  simp +decide -dsimp -implicitDefEqProofs [go_sem]
  refine callDE_frame [2, 3] q2 rfl rfl (by simp) (by simp +decide -dsimp -implicitDefEqProofs [go_sem]) (by simp +decide -dsimp -implicitDefEqProofs [go_sem, hmr]) ?_
  simp +decide -dsimp -implicitDefEqProofs [go_sem, hmr, hcr]
  refine callDE_pure p3 (by simp +decide -dsimp -implicitDefEqProofs [go_sem, hcl, hrl]) (by simp +decide -dsimp -implicitDefEqProofs [go_sem, hcc]) ?_
  simp +decide -dsimp -implicitDefEqProofs [go_sem]
  refine callDE_pure s2 (by simp +decide -dsimp -implicitDefEqProofs [go_sem, hcc]) rfl ?_
  simp +decide -dsimp -implicitDefEqProofs [go_sem]
  refine callDE_frame [2, 3] q3 rfl rfl (by simp) (by simp +decide -dsimp -implicitDefEqProofs [go_sem]) (by simp +decide -dsimp -implicitDefEqProofs [go_sem, hmr]) ?_
  simp +decide -dsimp -implicitDefEqProofs [go_sem, hmr, hlr]
  refine callDE_pure p2 (by simp +decide -dsimp -implicitDefEqProofs [go_sem, hcl, hrl]) (by simp +decide -dsimp -implicitDefEqProofs [go_sem, hlc]) ?_
  simp +decide -dsimp -implicitDefEqProofs [go_sem]
  refine callDE_pure s3 (by simp +decide -dsimp -implicitDefEqProofs [go_sem, hlc]) rfl ?_
  simp +decide -dsimp -implicitDefEqProofs [go_sem]
end Go.Ab
