/- A layer of abstract values over the model, and what is proved with it: part E8. -/
import Derived.Test.YtnibflopkjghcaaGreatDoorC3
import Derived.Test.YtnibflopkjghcaaGreatDoorX4
namespace Go.Ab
open Go Go.Proofs
def c8 : AFn := ⟨(.seq (.ops [⟨(some 2), (.mov (.v (.bool false))), none⟩]) (.seq (.ops [⟨(some 17), (.mov (.t 0)), none⟩, ⟨(some 18), (.build [.nils, (.int .i64 0)] [(0, (1, (.t 17)))]), none⟩, ⟨(some 19), (.box 25 (.t 18)), none⟩, ⟨(some 3), (.mov (.t 19)), none⟩]) (.seq (.ops [⟨(some 20), (.mov (.t 3)), none⟩, ⟨(some 21), (.call (.v (.fn (.func 10) [] [])) [(.t 20), (.v (.int .i64 9))]), none⟩, ⟨(some 4), (.alloc 28 [.nils]), none⟩, ⟨none, (.store (some 1) (.t 4) (.t 21)), none⟩]) (.seq (.ops [⟨(some 22), (.mov (.t 3)), none⟩, ⟨(some 23), (.load (some 1) (.t 4)), none⟩, ⟨(some 24), (.call (.v (.fn (.func 11) [] [])) [(.t 22), (.t 23)]), none⟩, ⟨(some 5), (.mov (.t 24)), none⟩]) (.seq (.draw [⟨(some 25), (.load (some 1) (.t 4)), none⟩, ⟨(some 26), (.mov (.t 5)), none⟩, ⟨(some 27), (.call (.v (.fn (.func 13) [] [])) [(.t 25), (.t 26)]), none⟩, ⟨(some 28), (.load (some 1) (.t 4)), none⟩, ⟨(some 29), (.mov (.t 5)), none⟩, ⟨(some 30), (.call (.v (.fn (.func 23) [] [])) [(.t 28), (.t 29)]), none⟩, ⟨(some 6), (.mov (.t 27)), none⟩, ⟨(some 7), (.mov (.t 30)), none⟩] [0, 0, 3, 0, 0, 31, 63, 127]) (.seq (.seq (.ops [⟨(some 8), (.mov (.v (.int .i64 0))), none⟩]) (.block 0 (.loop (.seq (.seq (.ops [⟨(some 31), (.mov (.t 8)), none⟩, ⟨(some 32), (.mov (.t 6)), none⟩, ⟨(some 33), (.len .sl (.t 32)), none⟩, ⟨(some 34), (.bin .lss (.t 31) (.t 33)), none⟩]) (.cond (.t 34) .skip (.exit 0))) (.seq (.block 1 (.seq (.draw [⟨(some 38), (.load (some 1) (.t 4)), none⟩, ⟨(some 39), (.mov (.t 6)), none⟩, ⟨(some 40), (.mov (.t 8)), none⟩, ⟨(some 41), (.iaddr none 7 (.t 39) (.t 40)), none⟩, ⟨(some 42), (.faddr 0 (.t 41)), none⟩, ⟨(some 43), (.load none (.t 42)), none⟩, ⟨(some 44), (.call (.v (.fn (.func 29) [] [])) [(.t 38), (.t 43)]), none⟩, ⟨(some 37), (.mov (.t 44)), none⟩, ⟨(some 45), (.extract (.t 37) 0), none⟩, ⟨(some 46), (.extract (.t 37) 1), none⟩, ⟨(some 9), (.alloc 55 [(.int .i64 0), (.int .i64 0), (.str []), (.str []), (.str []), (.str []), (.str []), (.int .i64 0), (.int .i64 0), .nils]), none⟩, ⟨none, (.store (some 10) (.t 9) (.t 45)), none⟩, ⟨(some 10), (.mov (.t 46)), none⟩] [0, 0, 0, 6, 14, 30, 63, 127, 255, 255, 0, 1535, 4095]) (.seq (.draw [⟨(some 48), (.load (some 1) (.t 4)), none⟩, ⟨(some 49), (.mov (.t 6)), none⟩, ⟨(some 50), (.mov (.t 8)), none⟩, ⟨(some 51), (.iaddr none 7 (.t 49) (.t 50)), none⟩, ⟨(some 52), (.faddr 6 (.t 51)), none⟩, ⟨(some 53), (.load none (.t 52)), none⟩, ⟨(some 54), (.call (.v (.fn (.func 30) [] [])) [(.t 48), (.t 53)]), none⟩, ⟨(some 47), (.mov (.t 54)), none⟩, ⟨(some 55), (.extract (.t 47) 0), none⟩, ⟨(some 56), (.extract (.t 47) 1), none⟩, ⟨(some 11), (.alloc 55 [(.int .i64 0), (.int .i64 0), (.str []), (.str []), (.str []), (.str []), (.str []), (.int .i64 0), (.int .i64 0), .nils]), none⟩, ⟨none, (.store (some 10) (.t 11) (.t 55)), none⟩, ⟨(some 12), (.mov (.t 56)), none⟩] [0, 0, 0, 6, 14, 30, 63, 127, 255, 255, 0, 1535, 4095]) (.seq (.seq (.draw [⟨(some 57), (.mov (.t 10)), none⟩, ⟨(some 58), (.un .not (.t 57)), none⟩, ⟨(some 59), (.mov (.t 58)), none⟩, ⟨(some 60), (.mov (.t 12)), (some (59, false))⟩, ⟨(some 61), (.un .not (.t 60)), (some (59, false))⟩, ⟨(some 62), (.pick (.t 59) (.v (.bool true)) (.t 61)), none⟩, ⟨(some 63), (.mov (.t 62)), none⟩, ⟨(some 64), (.faddr 0 (.t 9)), (some (63, false))⟩, ⟨(some 65), (.load none (.t 64)), (some (63, false))⟩, ⟨(some 66), (.faddr 0 (.t 11)), (some (63, false))⟩, ⟨(some 67), (.load none (.t 66)), (some (63, false))⟩, ⟨(some 68), (.bin .neq (.t 65) (.t 67)), (some (63, false))⟩, ⟨(some 69), (.pick (.t 63) (.v (.bool true)) (.t 68)), none⟩, ⟨(some 70), (.mov (.t 69)), none⟩, ⟨(some 71), (.faddr 7 (.t 9)), (some (70, false))⟩, ⟨(some 72), (.load none (.t 71)), (some (70, false))⟩, ⟨(some 73), (.mov (.t 6)), (some (70, false))⟩, ⟨(some 74), (.mov (.t 8)), (some (70, false))⟩, ⟨(some 75), (.iaddr none 7 (.t 73) (.t 74)), (some (70, false))⟩, ⟨(some 76), (.faddr 1 (.t 75)), (some (70, false))⟩, ⟨(some 77), (.load none (.t 76)), (some (70, false))⟩, ⟨(some 78), (.bin .neq (.t 72) (.t 77)), (some (70, false))⟩, ⟨(some 79), (.pick (.t 70) (.v (.bool true)) (.t 78)), none⟩, ⟨(some 80), (.mov (.t 79)), none⟩, ⟨(some 81), (.faddr 8 (.t 9)), (some (80, false))⟩, ⟨(some 82), (.load none (.t 81)), (some (80, false))⟩, ⟨(some 83), (.mov (.t 6)), (some (80, false))⟩, ⟨(some 84), (.mov (.t 8)), (some (80, false))⟩, ⟨(some 85), (.iaddr none 7 (.t 83) (.t 84)), (some (80, false))⟩, ⟨(some 86), (.faddr 2 (.t 85)), (some (80, false))⟩, ⟨(some 87), (.load none (.t 86)), (some (80, false))⟩, ⟨(some 88), (.bin .neq (.t 82) (.t 87)), (some (80, false))⟩, ⟨(some 89), (.pick (.t 80) (.v (.bool true)) (.t 88)), none⟩] [0, 1, 3, 7, 15, 31, 63, 127, 255, 127, 639, 2047, 4095, 8191, 16383, 32767, 16383, 16383, 212991, 475135, 999423, 2097151, 4194303, 8388607, 16777215, 33554431, 16777215, 16777215, 218103807, 486539263, 1023410175, 2147483647, 4294967295]) (.cond (.t 89) (.seq (.ops [⟨(some 2), (.mov (.v (.bool false))), none⟩]) .ret) .skip)) (.seq (.ops [⟨(some 13), (.mov (.v (.int .i64 0))), none⟩]) (.block 2 (.loop (.seq (.seq (.ops [⟨(some 90), (.mov (.t 13)), none⟩, ⟨(some 91), (.mov (.t 8)), none⟩, ⟨(some 92), (.bin .lss (.t 90) (.t 91)), none⟩]) (.cond (.t 92) .skip (.exit 2))) (.seq (.block 3 (.seq (.draw [⟨(some 95), (.mov (.t 6)), none⟩, ⟨(some 96), (.mov (.t 13)), none⟩, ⟨(some 97), (.iaddr none 7 (.t 95) (.t 96)), none⟩, ⟨(some 98), (.faddr 0 (.t 97)), none⟩, ⟨(some 99), (.load none (.t 98)), none⟩, ⟨(some 100), (.mov (.t 6)), none⟩, ⟨(some 101), (.mov (.t 8)), none⟩, ⟨(some 102), (.iaddr none 7 (.t 100) (.t 101)), none⟩, ⟨(some 103), (.faddr 0 (.t 102)), none⟩, ⟨(some 104), (.load none (.t 103)), none⟩, ⟨(some 105), (.bin .eql (.t 99) (.t 104)), none⟩] [0, 0, 3, 7, 15, 0, 0, 96, 224, 480, 1023]) (.cond (.t 105) (.seq (.ops [⟨(some 2), (.mov (.v (.bool false))), none⟩]) .ret) .skip))) (.ops [⟨(some 93), (.mov (.t 13)), none⟩, ⟨(some 94), (.bin .add (.t 93) (.v (.int .i64 1))), none⟩, ⟨(some 13), (.mov (.t 94)), none⟩])))))))))) (.ops [⟨(some 35), (.mov (.t 8)), none⟩, ⟨(some 36), (.bin .add (.t 35) (.v (.int .i64 1))), none⟩, ⟨(some 8), (.mov (.t 36)), none⟩])))))) (.seq (.seq (.ops [⟨(some 14), (.mov (.v (.int .i64 0))), none⟩]) (.block 4 (.loop (.seq (.seq (.ops [⟨(some 106), (.mov (.t 14)), none⟩, ⟨(some 107), (.mov (.t 7)), none⟩, ⟨(some 108), (.len .sl (.t 107)), none⟩, ⟨(some 109), (.bin .lss (.t 106) (.t 108)), none⟩]) (.cond (.t 109) .skip (.exit 4))) (.seq (.block 5 (.seq (.ops [⟨(some 15), (.mov (.v (.bool false))), none⟩]) (.seq (.seq (.ops [⟨(some 16), (.mov (.v (.int .i64 0))), none⟩]) (.block 6 (.loop (.seq (.seq (.ops [⟨(some 112), (.mov (.t 16)), none⟩, ⟨(some 113), (.mov (.t 6)), none⟩, ⟨(some 114), (.len .sl (.t 113)), none⟩, ⟨(some 115), (.bin .lss (.t 112) (.t 114)), none⟩]) (.cond (.t 115) .skip (.exit 6))) (.seq (.block 7 (.draw [⟨(some 118), (.mov (.t 15)), none⟩, ⟨(some 119), (.mov (.t 118)), none⟩, ⟨(some 120), (.mov (.t 6)), (some (119, false))⟩, ⟨(some 121), (.mov (.t 16)), (some (119, false))⟩, ⟨(some 122), (.iaddr none 7 (.t 120) (.t 121)), (some (119, false))⟩, ⟨(some 123), (.faddr 0 (.t 122)), (some (119, false))⟩, ⟨(some 124), (.load none (.t 123)), (some (119, false))⟩, ⟨(some 125), (.mov (.t 7)), (some (119, false))⟩, ⟨(some 126), (.mov (.t 14)), (some (119, false))⟩, ⟨(some 127), (.iaddr none 3 (.t 125) (.t 126)), (some (119, false))⟩, ⟨(some 128), (.faddr 1 (.t 127)), (some (119, false))⟩, ⟨(some 129), (.load none (.t 128)), (some (119, false))⟩, ⟨(some 130), (.bin .eql (.t 124) (.t 129)), (some (119, false))⟩, ⟨(some 131), (.mov (.t 130)), (some (119, false))⟩, ⟨(some 132), (.mov (.t 6)), (some (131, true))⟩, ⟨(some 133), (.mov (.t 16)), (some (131, true))⟩, ⟨(some 134), (.iaddr none 7 (.t 132) (.t 133)), (some (131, true))⟩, ⟨(some 135), (.faddr 6 (.t 134)), (some (131, true))⟩, ⟨(some 136), (.load none (.t 135)), (some (131, true))⟩, ⟨(some 137), (.mov (.t 7)), (some (131, true))⟩, ⟨(some 138), (.mov (.t 14)), (some (131, true))⟩, ⟨(some 139), (.iaddr none 3 (.t 137) (.t 138)), (some (131, true))⟩, ⟨(some 140), (.faddr 2 (.t 139)), (some (131, true))⟩, ⟨(some 141), (.load none (.t 140)), (some (131, true))⟩, ⟨(some 142), (.bin .eql (.t 136) (.t 141)), (some (131, true))⟩, ⟨(some 143), (.pick (.t 131) (.t 142) (.v (.bool false))), (some (119, false))⟩, ⟨(some 144), (.pick (.t 119) (.v (.bool true)) (.t 143)), none⟩, ⟨(some 15), (.mov (.t 144)), none⟩] [0, 1, 3, 3, 15, 31, 63, 3, 3, 387, 899, 1923, 4095, 8191, 16383, 16383, 65535, 131071, 262143, 16383, 16383, 1589247, 3686399, 7880703, 16777215, 33554431, 67108863, 134217727])) (.ops [⟨(some 116), (.mov (.t 16)), none⟩, ⟨(some 117), (.bin .add (.t 116) (.v (.int .i64 1))), none⟩, ⟨(some 16), (.mov (.t 117)), none⟩])))))) (.seq (.ops [⟨(some 145), (.mov (.t 15)), none⟩, ⟨(some 146), (.un .not (.t 145)), none⟩]) (.cond (.t 146) (.seq (.ops [⟨(some 2), (.mov (.v (.bool false))), none⟩]) .ret) .skip))))) (.ops [⟨(some 110), (.mov (.t 14)), none⟩, ⟨(some 111), (.bin .add (.t 110) (.v (.int .i64 1))), none⟩, ⟨(some 14), (.mov (.t 111)), none⟩])))))) (.seq (.ops [⟨(some 147), (.call (.v (.fn (.func 18) [] [])) []), none⟩, ⟨(some 2), (.mov (.t 147)), none⟩]) .ret)))))))), 148, [(.tmp 2)]⟩
theorem c8_ok : compileF Tryz.prog [] 8 = some c8 := by kernel_rfl
def c9 : AFn := ⟨(.seq (.ops [⟨(some 2), (.mov (.v (.bool false))), none⟩]) (.seq (.ops [⟨(some 10), (.mov (.t 0)), none⟩, ⟨(some 11), (.build [.nils, (.int .i64 0)] [(0, (1, (.t 10)))]), none⟩, ⟨(some 12), (.box 25 (.t 11)), none⟩, ⟨(some 3), (.mov (.t 12)), none⟩]) (.seq (.ops [⟨(some 13), (.mov (.t 3)), none⟩, ⟨(some 14), (.call (.v (.fn (.func 10) [] [])) [(.t 13), (.v (.int .i64 9))]), none⟩, ⟨(some 4), (.alloc 28 [.nils]), none⟩, ⟨none, (.store (some 1) (.t 4) (.t 14)), none⟩]) (.seq (.ops [⟨(some 15), (.mov (.t 3)), none⟩, ⟨(some 16), (.load (some 1) (.t 4)), none⟩, ⟨(some 17), (.call (.v (.fn (.func 11) [] [])) [(.t 15), (.t 16)]), none⟩, ⟨(some 5), (.mov (.t 17)), none⟩]) (.seq (.ops [⟨(some 18), (.call (.v (.fn (.func 31) [] [])) []), none⟩, ⟨(some 6), (.mov (.t 18)), none⟩]) (.seq (.seq (.ops [⟨(some 19), (.call (.v (.fn (.func 18) [] [])) []), none⟩, ⟨(some 20), (.un .not (.t 19)), none⟩, ⟨(some 21), (.mov (.t 20)), none⟩, ⟨(some 22), (.mov (.t 6)), (some (21, false))⟩, ⟨(some 23), (.ext (.pnil false) [(.t 22)]), (some (21, false))⟩, ⟨(some 24), (.pick (.t 21) (.v (.bool true)) (.t 23)), none⟩]) (.cond (.t 24) (.seq (.ops [⟨(some 2), (.mov (.v (.bool false))), none⟩]) .ret) .skip)) (.seq (.ops [⟨(some 25), (.load (some 1) (.t 4)), none⟩, ⟨(some 26), (.mov (.t 5)), none⟩, ⟨(some 27), (.call (.v (.fn (.func 13) [] [])) [(.t 25), (.t 26)]), none⟩, ⟨(some 7), (.mov (.t 27)), none⟩]) (.seq (.seq (.ops [⟨(some 8), (.mov (.v (.int .i64 0))), none⟩]) (.block 0 (.loop (.seq (.seq (.ops [⟨(some 28), (.mov (.t 8)), none⟩, ⟨(some 29), (.mov (.t 5)), none⟩, ⟨(some 30), (.len .sl (.t 29)), none⟩, ⟨(some 31), (.bin .lss (.t 28) (.t 30)), none⟩]) (.cond (.t 31) .skip (.exit 0))) (.seq (.block 1 (.seq (.ops [⟨(some 9), (.mov (.v (.int .i64 0))), none⟩]) (.block 2 (.loop (.seq (.seq (.ops [⟨(some 34), (.mov (.t 9)), none⟩, ⟨(some 35), (.mov (.t 7)), none⟩, ⟨(some 36), (.len .sl (.t 35)), none⟩, ⟨(some 37), (.bin .lss (.t 34) (.t 36)), none⟩]) (.cond (.t 37) .skip (.exit 2))) (.seq (.block 3 (.seq (.draw [⟨(some 40), (.mov (.t 7)), none⟩, ⟨(some 41), (.mov (.t 9)), none⟩, ⟨(some 42), (.iaddr none 7 (.t 40) (.t 41)), none⟩, ⟨(some 43), (.faddr 6 (.t 42)), none⟩, ⟨(some 44), (.load none (.t 43)), none⟩, ⟨(some 45), (.mov (.t 5)), none⟩, ⟨(some 46), (.mov (.t 8)), none⟩, ⟨(some 47), (.iaddr none 12 (.t 45) (.t 46)), none⟩, ⟨(some 48), (.faddr 0 (.t 47)), none⟩, ⟨(some 49), (.load none (.t 48)), none⟩, ⟨(some 50), (.bin .eql (.t 44) (.t 49)), none⟩, ⟨(some 51), (.mov (.t 50)), none⟩, ⟨(some 52), (.mov (.t 6)), (some (51, true))⟩, ⟨(some 53), (.mov (.t 5)), (some (51, true))⟩, ⟨(some 54), (.mov (.t 8)), (some (51, true))⟩, ⟨(some 55), (.iaddr none 12 (.t 53) (.t 54)), (some (51, true))⟩, ⟨(some 56), (.faddr 0 (.t 55)), (some (51, true))⟩, ⟨(some 57), (.load none (.t 56)), (some (51, true))⟩, ⟨(some 58), (.mov (.t 7)), (some (51, true))⟩, ⟨(some 59), (.mov (.t 9)), (some (51, true))⟩, ⟨(some 60), (.iaddr none 7 (.t 58) (.t 59)), (some (51, true))⟩, ⟨(some 61), (.faddr 0 (.t 60)), (some (51, true))⟩, ⟨(some 62), (.load none (.t 61)), (some (51, true))⟩, ⟨(some 63), (.mov (.t 5)), (some (51, true))⟩, ⟨(some 64), (.mov (.t 8)), (some (51, true))⟩, ⟨(some 65), (.iaddr none 12 (.t 63) (.t 64)), (some (51, true))⟩, ⟨(some 66), (.faddr 4 (.t 65)), (some (51, true))⟩, ⟨(some 67), (.load none (.t 66)), (some (51, true))⟩, ⟨(some 68), (.mov (.t 5)), (some (51, true))⟩, ⟨(some 69), (.mov (.t 8)), (some (51, true))⟩, ⟨(some 70), (.iaddr none 12 (.t 68) (.t 69)), (some (51, true))⟩, ⟨(some 71), (.faddr 8 (.t 70)), (some (51, true))⟩, ⟨(some 72), (.load none (.t 71)), (some (51, true))⟩, ⟨(some 73), (.call (.v (.fn (.func 32) [] [])) [(.t 52), (.t 57), (.t 62), (.t 67), (.t 72)]), (some (51, true))⟩, ⟨(some 74), (.bin .neq (.t 73) (.v (.int .i64 0))), (some (51, true))⟩, ⟨(some 75), (.pick (.t 51) (.t 74) (.v (.bool false))), none⟩] [0, 0, 3, 7, 15, 0, 0, 96, 224, 480, 1023, 2047, 4095, 4095, 4095, 28671, 61439, 126975, 4095, 4095, 790527, 1839103, 3936255, 4095, 4095, 25169919, 58724351, 125833215, 4095, 4095, 805310463, 1879052287, 4026535935, 8589934591, 17179869183, 34359738367]) (.cond (.t 75) (.seq (.ops [⟨(some 2), (.mov (.v (.bool false))), none⟩]) .ret) .skip))) (.ops [⟨(some 38), (.mov (.t 9)), none⟩, ⟨(some 39), (.bin .add (.t 38) (.v (.int .i64 1))), none⟩, ⟨(some 9), (.mov (.t 39)), none⟩]))))))) (.ops [⟨(some 32), (.mov (.t 8)), none⟩, ⟨(some 33), (.bin .add (.t 32) (.v (.int .i64 1))), none⟩, ⟨(some 8), (.mov (.t 33)), none⟩])))))) (.seq (.draw [⟨(some 76), (.mov (.t 6)), none⟩, ⟨(some 77), (.call (.v (.fn (.func 33) [] [])) [(.t 76)]), none⟩, ⟨(some 78), (.mov (.t 7)), none⟩, ⟨(some 79), (.call (.v (.fn (.func 20) [] [])) [(.t 78)]), none⟩, ⟨(some 80), (.call (.v (.fn (.func 19) [] [])) [(.t 77), (.t 79)]), none⟩, ⟨(some 81), (.mov (.t 80)), none⟩, ⟨(some 82), (.mov (.t 6)), (some (81, true))⟩, ⟨(some 83), (.call (.v (.fn (.func 34) [] [])) [(.t 82)]), (some (81, true))⟩, ⟨(some 84), (.load (some 1) (.t 4)), (some (81, true))⟩, ⟨(some 85), (.mov (.t 5)), (some (81, true))⟩, ⟨(some 86), (.call (.v (.fn (.func 16) [] [])) [(.t 84), (.t 85)]), (some (81, true))⟩, ⟨(some 87), (.call (.v (.fn (.func 15) [] [])) [(.t 83), (.t 86)]), (some (81, true))⟩, ⟨(some 88), (.pick (.t 81) (.t 87) (.v (.bool false))), none⟩, ⟨(some 89), (.mov (.t 88)), none⟩, ⟨(some 90), (.mov (.t 6)), (some (89, true))⟩, ⟨(some 91), (.call (.v (.fn (.func 35) [] [])) [(.t 90)]), (some (89, true))⟩, ⟨(some 92), (.load (some 1) (.t 4)), (some (89, true))⟩, ⟨(some 93), (.mov (.t 5)), (some (89, true))⟩, ⟨(some 94), (.call (.v (.fn (.func 23) [] [])) [(.t 92), (.t 93)]), (some (89, true))⟩, ⟨(some 95), (.call (.v (.fn (.func 22) [] [])) [(.t 91), (.t 94)]), (some (89, true))⟩, ⟨(some 96), (.pick (.t 89) (.t 95) (.v (.bool false))), none⟩, ⟨(some 2), (.mov (.t 96)), none⟩] [0, 1, 0, 7, 15, 31, 63, 127, 63, 63, 1023, 2047, 4095, 8191, 16383, 32767, 16383, 16383, 262143, 524287, 1048575, 2097151]) .ret))))))))), 97, [(.tmp 2)]⟩
theorem c9_ok : compileF Tryz.prog [] 9 = some c9 := by kernel_rfl
def c29 : AFn := ⟨(.seq (.ops [⟨(some 2), (.box 28 (.t 0)), none⟩, ⟨(some 3), (.box 9 (.t 1)), none⟩, ⟨(some 4), (.alloc 55 [(.int .i64 0), (.int .i64 0), (.str []), (.str []), (.str []), (.str []), (.str []), (.int .i64 0), (.int .i64 0), .nils]), none⟩, ⟨(some 5), (.mov (.v (.bool false))), none⟩]) (.seq (.ops [⟨(some 6), (.load (some 1) (.t 2)), none⟩, ⟨(some 7), (.mkfn (.func 51) [] [(.t 3)]), none⟩, ⟨(some 8), (.call (.v (.fn (.func 50) [] [])) [(.t 6), (.t 7)]), none⟩, ⟨(some 9), (.extract (.t 8) 0), none⟩, ⟨(some 10), (.extract (.t 8) 1), none⟩, ⟨none, (.store (some 10) (.t 4) (.t 9)), none⟩, ⟨(some 5), (.mov (.t 10)), none⟩]) .ret)), 11, [(.cell 4 (some 10)), (.tmp 5)]⟩
theorem c29_ok : compileF Tryz.prog [] 29 = some c29 := by kernel_rfl
def c30 : AFn := ⟨(.seq (.ops [⟨(some 2), (.box 28 (.t 0)), none⟩, ⟨(some 3), (.box 9 (.t 1)), none⟩, ⟨(some 4), (.alloc 55 [(.int .i64 0), (.int .i64 0), (.str []), (.str []), (.str []), (.str []), (.str []), (.int .i64 0), (.int .i64 0), .nils]), none⟩, ⟨(some 5), (.mov (.v (.bool false))), none⟩]) (.seq (.ops [⟨(some 7), (.load (some 1) (.t 2)), none⟩, ⟨(some 8), (.call (.v (.fn (.func 53) [] [])) [(.t 7)]), none⟩, ⟨(some 6), (.alloc 94 [.nils, .nilm, .nilm]), none⟩, ⟨none, (.store (some 3) (.t 6) (.t 8)), none⟩]) (.seq (.ops [⟨(some 9), (.load (some 1) (.t 2)), none⟩, ⟨(some 10), (.mkfn (.func 54) [] [(.t 6), (.t 3)]), none⟩, ⟨(some 11), (.call (.v (.fn (.func 50) [] [])) [(.t 9), (.t 10)]), none⟩, ⟨(some 12), (.extract (.t 11) 0), none⟩, ⟨(some 13), (.extract (.t 11) 1), none⟩, ⟨none, (.store (some 10) (.t 4) (.t 12)), none⟩, ⟨(some 5), (.mov (.t 13)), none⟩]) .ret))), 14, [(.cell 4 (some 10)), (.tmp 5)]⟩
theorem c30_ok : compileF Tryz.prog [] 30 = some c30 := by kernel_rfl
def c50 : AFn := ⟨(.seq (.ops [⟨(some 2), (.box 28 (.t 0)), none⟩, ⟨(some 4), (.alloc 55 [(.int .i64 0), (.int .i64 0), (.str []), (.str []), (.str []), (.str []), (.str []), (.int .i64 0), (.int .i64 0), .nils]), none⟩, ⟨(some 5), (.mov (.v (.bool false))), none⟩]) (.seq (.ops [⟨(some 7), (.faddr 0 (.t 2)), none⟩, ⟨(some 8), (.load none (.t 7)), none⟩, ⟨(some 9), (.mov (.t 1)), none⟩, ⟨(some 10), (.call (.v (.fn (.func 86) [] [])) [(.t 8), (.t 9)]), none⟩, ⟨(some 6), (.mov (.t 10)), none⟩]) (.seq (.seq (.ops [⟨(some 11), (.mov (.t 6)), none⟩, ⟨(some 12), (.bin .lss (.t 11) (.v (.int .i64 0))), none⟩]) (.cond (.t 12) (.seq (.ops [⟨(some 13), (.build [(.int .i64 0), (.int .i64 0), (.str []), (.str []), (.str []), (.str []), (.str []), (.int .i64 0), (.int .i64 0), .nils] []), none⟩, ⟨none, (.store (some 10) (.t 4) (.t 13)), none⟩, ⟨(some 5), (.mov (.v (.bool false))), none⟩]) .ret) .skip)) (.seq (.ops [⟨(some 14), (.faddr 0 (.t 2)), none⟩, ⟨(some 15), (.load none (.t 14)), none⟩, ⟨(some 16), (.mov (.t 6)), none⟩, ⟨(some 17), (.iaddr none 10 (.t 15) (.t 16)), none⟩, ⟨(some 18), (.load (some 10) (.t 17)), none⟩, ⟨(some 19), (.call (.v (.fn (.func 87) [] [])) [(.t 18)]), none⟩, ⟨none, (.store (some 10) (.t 4) (.t 19)), none⟩, ⟨(some 5), (.mov (.v (.bool true))), none⟩]) .ret)))), 20, [(.cell 4 (some 10)), (.tmp 5)]⟩
theorem c50_ok : compileF Tryz.prog [] 50 = some c50 := by kernel_rfl
def c51 : AFn := ⟨(.seq (.ops [⟨(some 2), (.box 55 (.t 0)), none⟩, ⟨(some 3), (.mov (.v (.bool false))), none⟩]) (.seq (.ops [⟨(some 7), (.load (some 10) (.t 2)), none⟩, ⟨(some 8), (.call (.v (.fn (.func 52) [] [])) [(.t 7)]), none⟩, ⟨(some 6), (.mov (.t 8)), none⟩, ⟨(some 9), (.extract (.t 6) 0), none⟩, ⟨(some 10), (.extract (.t 6) 1), none⟩, ⟨(some 4), (.mov (.t 9)), none⟩, ⟨(some 5), (.mov (.t 10)), none⟩]) (.seq (.ops [⟨(some 11), (.mov (.t 5)), none⟩, ⟨(some 12), (.mov (.t 11)), none⟩, ⟨(some 13), (.mov (.t 4)), (some (12, true))⟩, ⟨(some 14), (.load none (.t 1)), (some (12, true))⟩, ⟨(some 15), (.bin .eql (.t 13) (.t 14)), (some (12, true))⟩, ⟨(some 16), (.pick (.t 12) (.t 15) (.v (.bool false))), none⟩, ⟨(some 3), (.mov (.t 16)), none⟩]) .ret))), 17, [(.tmp 3)]⟩
theorem c51_ok : compileF Tryz.prog [] 51 = some c51 := by kernel_rfl
def c53 : AFn := ⟨(.seq (.ops [⟨(some 1), (.box 28 (.t 0)), none⟩, ⟨(some 2), (.alloc 94 [.nils, .nilm, .nilm]), none⟩]) (.seq (.ops [⟨(some 7), (.faddr 0 (.t 1)), none⟩, ⟨(some 8), (.load none (.t 7)), none⟩, ⟨(some 9), .mkmap, none⟩, ⟨(some 10), .mkmap, none⟩, ⟨(some 11), (.build [.nils, .nilm, .nilm] [(0, (1, (.t 8))), (1, (1, (.t 9))), (2, (1, (.t 10)))]), none⟩, ⟨(some 3), (.alloc 94 [.nils, .nilm, .nilm]), none⟩, ⟨none, (.store (some 3) (.t 3) (.t 11)), none⟩]) (.seq (.seq (.ops [⟨(some 12), (.faddr 0 (.t 1)), none⟩, ⟨(some 13), (.load none (.t 12)), none⟩, ⟨(some 14), (.len .sl (.t 13)), none⟩, ⟨(some 15), (.mov (.v (.int .i64 0))), none⟩]) (.block 0 (.loop (.seq (.ops [⟨(some 16), (.bin .lss (.t 15) (.t 14)), none⟩]) (.seq (.cond (.t 16) .skip (.exit 0)) (.seq (.block 1 (.seq (.ops [⟨(some 17), (.mov (.t 15)), none⟩, ⟨(some 18), (.iaddr none 10 (.t 13) (.t 15)), none⟩, ⟨(some 19), (.load (some 10) (.t 18)), none⟩, ⟨(some 5), (.alloc 55 [(.int .i64 0), (.int .i64 0), (.str []), (.str []), (.str []), (.str []), (.str []), (.int .i64 0), (.int .i64 0), .nils]), none⟩, ⟨(some 4), (.mov (.t 17)), none⟩, ⟨none, (.store (some 10) (.t 5) (.t 19)), none⟩]) (.seq (.ops [⟨(some 20), (.faddr 2 (.t 3)), none⟩, ⟨(some 21), (.load none (.t 20)), none⟩, ⟨(some 22), (.faddr 1 (.t 5)), none⟩, ⟨(some 23), (.load none (.t 22)), none⟩, ⟨(some 24), (.lookup (.int .i64) (.str []) false (.t 21) (.t 23)), none⟩, ⟨(some 25), (.bin .add (.t 24) (.v (.str [47]))), none⟩, ⟨(some 26), (.faddr 3 (.t 5)), none⟩, ⟨(some 27), (.load none (.t 26)), none⟩, ⟨(some 28), (.bin .add (.t 25) (.t 27)), none⟩, ⟨(some 6), (.mov (.t 28)), none⟩]) (.draw [⟨(some 29), (.faddr 1 (.t 3)), none⟩, ⟨(some 30), (.load none (.t 29)), none⟩, ⟨(some 31), (.faddr 0 (.t 5)), none⟩, ⟨(some 32), (.load none (.t 31)), none⟩, ⟨(some 33), (.faddr 2 (.t 3)), none⟩, ⟨(some 34), (.load none (.t 33)), none⟩, ⟨(some 35), (.faddr 0 (.t 5)), none⟩, ⟨(some 36), (.load none (.t 35)), none⟩, ⟨(some 37), (.mov (.t 4)), none⟩, ⟨(some 38), (.mov (.t 6)), none⟩, ⟨none, (.mapset (.int .i64) (.t 30) (.t 32) (.t 37)), none⟩, ⟨none, (.mapset (.int .i64) (.t 34) (.t 36) (.t 38)), none⟩] [0, 1, 0, 4, 0, 16, 0, 64, 0, 0, 271, 2047])))) (.ops [⟨(some 39), (.bin .add (.t 15) (.v (.int .i64 1))), none⟩, ⟨(some 15), (.mov (.t 39)), none⟩]))))))) (.seq (.ops [⟨(some 40), (.load (some 3) (.t 3)), none⟩, ⟨none, (.store (some 3) (.t 2) (.t 40)), none⟩]) .ret)))), 41, [(.cell 2 (some 3))]⟩
theorem c53_ok : compileF Tryz.prog [] 53 = some c53 := by kernel_rfl
def c54 : AFn := ⟨(.seq (.ops [⟨(some 3), (.box 55 (.t 0)), none⟩, ⟨(some 4), (.mov (.v (.bool false))), none⟩]) (.seq (.ops [⟨(some 5), (.faddr 2 (.t 1)), none⟩, ⟨(some 6), (.load none (.t 5)), none⟩, ⟨(some 7), (.faddr 0 (.t 3)), none⟩, ⟨(some 8), (.load none (.t 7)), none⟩, ⟨(some 9), (.lookup (.int .i64) (.str []) false (.t 6) (.t 8)), none⟩, ⟨(some 10), (.load none (.t 2)), none⟩, ⟨(some 11), (.bin .eql (.t 9) (.t 10)), none⟩, ⟨(some 4), (.mov (.t 11)), none⟩]) .ret)), 12, [(.tmp 4)]⟩
theorem c54_ok : compileF Tryz.prog [] 54 = some c54 := by kernel_rfl
def c86 : AFn := ⟨(.seq (.ops [⟨(some 4), (.mov (.v (.int .i64 0))), none⟩]) (.seq (.seq (.ops [⟨(some 6), (.mov (.t 0)), none⟩, ⟨(some 7), (.len .sl (.t 6)), none⟩, ⟨(some 8), (.mov (.v (.int .i64 0))), none⟩]) (.block 0 (.loop (.seq (.ops [⟨(some 9), (.bin .lss (.t 8) (.t 7)), none⟩]) (.seq (.cond (.t 9) .skip (.exit 0)) (.seq (.block 1 (.seq (.ops [⟨(some 10), (.mov (.t 8)), none⟩, ⟨(some 5), (.mov (.t 10)), none⟩]) (.seq (.ops [⟨(some 11), (.mov (.t 1)), none⟩, ⟨(some 12), (.mov (.t 0)), none⟩, ⟨(some 13), (.mov (.t 5)), none⟩, ⟨(some 14), (.iaddr none 10 (.t 12) (.t 13)), none⟩, ⟨(some 15), (.load (some 10) (.t 14)), none⟩, ⟨(some 16), (.call (.t 11) [(.t 15)]), none⟩]) (.cond (.t 16) (.seq (.ops [⟨(some 17), (.mov (.t 5)), none⟩, ⟨(some 4), (.mov (.t 17)), none⟩]) .ret) .skip)))) (.ops [⟨(some 18), (.bin .add (.t 8) (.v (.int .i64 1))), none⟩, ⟨(some 8), (.mov (.t 18)), none⟩]))))))) (.seq (.ops [⟨(some 4), (.mov (.v (.int .i64 (-1)))), none⟩]) .ret))), 19, [(.tmp 4)]⟩
theorem c86_ok : compileF Tryz.prog [] 86 = some c86 := by kernel_rfl
def c87 : AFn := ⟨(.seq (.ops [⟨(some 1), (.box 55 (.t 0)), none⟩, ⟨(some 2), (.alloc 55 [(.int .i64 0), (.int .i64 0), (.str []), (.str []), (.str []), (.str []), (.str []), (.int .i64 0), (.int .i64 0), .nils]), none⟩]) (.seq (.ops [⟨(some 3), (.faddr 9 (.t 1)), none⟩, ⟨(some 4), (.load none (.t 3)), none⟩, ⟨(some 5), (.call (.v (.fn (.func 130) [] [])) [(.t 4)]), none⟩, ⟨(some 6), (.faddr 9 (.t 1)), none⟩, ⟨none, (.store none (.t 6) (.t 5)), none⟩]) (.seq (.ops [⟨(some 7), (.load (some 10) (.t 1)), none⟩, ⟨none, (.store (some 10) (.t 2) (.t 7)), none⟩]) .ret))), 8, [(.cell 2 (some 10))]⟩
theorem c87_ok : compileF Tryz.prog [] 87 = some c87 := by kernel_rfl
def c130 : AFn := ⟨(.seq (.ops [⟨(some 2), (.mov (.v .nils)), none⟩]) (.seq (.seq (.ops [⟨(some 3), (.mov (.t 0)), none⟩, ⟨(some 4), (.eqnil false (.t 3)), none⟩]) (.cond (.t 4) (.seq (.ops [⟨(some 2), (.mov (.v .nils)), none⟩]) .ret) .skip)) (.seq (.ops [⟨(some 5), (.bslice 145 2 true []), none⟩, ⟨(some 6), (.mov (.t 0)), none⟩, ⟨(some 7), (.append 145 2 32 (.t 5) (.t 6)), none⟩, ⟨(some 2), (.mov (.t 7)), none⟩]) .ret))), 8, [(.tmp 2)]⟩
theorem c130_ok : compileF Tryz.prog [5] 130 = some c130 := by kernel_rfl
end Go.Ab
namespace Go.Ab
open Go Go.Proofs Go.Sort
section
variable {T : List Dvc} {rs : List Rcd}
theorem nodeD_inj {S : Dvc → Prop} (hT : TreeOk S T) {d e : Dvc} (hd : d ∈ T) (he : e ∈ T) {s : Txt} (h1 : nodeD d = some s) (h2 : nodeD e = some s) : d = e := by
  have hc : clashB d e = true := by simp [clashB, h1, h2]
  have hc2 : clashB e d = true := by rw [clash_symm]; exact hc
  obtain ⟨i, hi, rfl⟩ := List.mem_iff_getElem.1 hd
  obtain ⟨j, hj, rfl⟩ := List.mem_iff_getElem.1 he
  have hp := List.pairwise_iff_getElem.1 hT.cl
  rcases Nat.lt_trichotomy i j with h3 | h3 | h3
  · have := hp i j hi hj h3; rw [hc] at this; cases this
  · subst h3; rfl
  · have := hp j i hj hi h3; rw [hc2] at this; cases this
theorem place_inj (h : Nok T rs) {d e : Dvc} (hd : d ∈ T) (he : e ∈ T) (hp : placeT T d.idx = placeT T e.idx) : d = e :=
  org_inj h.t hd he (by rw [← (place_T h.t (fun _ x => x.o) hd).2, hp, (place_T h.t (fun _ x => x.o) he).2])
theorem ndOf_at {d : Dvc} {n : Nd} (h : n ∈ ndOf rs d) : nodeD d = some n.name ∧ n.kind = d.kind ∧ n.num = d.num ∧ ∃ r, ofR rs d.idx = some r ∧ n.path = r.path := by
  unfold ndOf at h
  split at h
  · rename_i s r h1 h2
    rw [List.mem_singleton] at h
    subst h
    exact ⟨h1, rfl, rfl, r, h2, rfl⟩
  · cases h
theorem nd_dev (h : Nok T rs) {n : Nd} (hn : n ∈ mkN T rs) : ∃ d ∈ T, nodeD d = some n.name ∧ n.kind = d.kind ∧ n.num = d.num ∧ n.path = placeT T d.idx ∧ ∃ r ∈ rs, ofR rs d.idx = some r ∧ n.path = r.path := by
  obtain ⟨d, hd, hn⟩ := List.mem_flatMap.1 hn
  obtain ⟨h1, h2, h3, r, h4, h5⟩ := ndOf_at hn
  obtain ⟨h6, h7⟩ := ofR_some h4
  exact ⟨d, hd, h1, h2, h3, by rw [h5, (h.r.r r h6).path_eq h7], r, h6, h4, h5⟩
theorem names_df (h : Nok T rs) : (mkN T rs).Pairwise fun a b => a.name ≠ b.name := by
  unfold mkN
  rw [List.pairwise_flatMap]
  refine ⟨fun d _ => ?_, h.t.cl.imp fun {a b} hc x hx y hy e => ?_⟩
  · unfold ndOf; split <;> simp
  · have h1 := (ndOf_at hx).1
    have h2 := (ndOf_at hy).1
    rw [← e] at h2
    have : clashB a b = true := by simp [clashB, h1, h2]
    rw [hc] at this; cases this
theorem names_at (h : Nok T rs) {i j : Nat} (hi : i < (mkN T rs).length) (hj : j < (mkN T rs).length) (hij : j < i) : (mkN T rs)[j].name ≠ (mkN T rs)[i].name := List.pairwise_iff_getElem.1 (names_df h) j i hj hi hij
theorem lnk_nd (h : Nok T rs) {x : Lk} (hx : x ∈ lnkN T rs) : ∃ n ∈ mkN T rs, n.name = x.node ∧ n.path = x.path := by
  have hr := refR_ok pord (h.okc.sub (O' := opn (nmN (mkN T rs)) (mkC T rs)) List.filter_sublist)
  obtain ⟨c, hc, rfl, _⟩ := (hr.mem x).1 hx
  obtain ⟨d, hd, hm⟩ := List.mem_flatMap.1 (List.mem_filter.1 hc.1).1
  unfold clOfD at hm
  split at hm
  · rename_i s r h1 h2
    obtain ⟨y, _, rfl⟩ := List.mem_map.1 hm
    exact ⟨⟨s, d.kind, d.num, r.owner, r.group, r.mode, r.path⟩, List.mem_flatMap.2 ⟨d, hd, by simp [ndOf, h1, h2]⟩, rfl, rfl⟩
  · cases hm
def nodeP (s : Txt) (d : Dvc) : Bool := decide (nodeD d = some s)
def placeP (T : List Dvc) (s : Txt) (d : Dvc) : Bool := decide (placeT T d.idx = s)
theorem first_at {p : Dvc → Bool} {d : Dvc} (hd : d ∈ T) (hp : p d = true) (hu : ∀ e ∈ T, p e = true → e = d) : ∃ i, ∃ h : i < T.length, T.findIdx? p = some i ∧ T[i] = d := by
  cases hf : T.findIdx? p with
  | none => rw [List.findIdx?_eq_none_iff] at hf; rw [hf d hd] at hp; cases hp
  | some i =>
    obtain ⟨h1, h2, _⟩ := List.findIdx?_eq_some_iff_getElem.1 hf
    exact ⟨i, h1, rfl, hu _ (List.getElem_mem _) h2⟩
/-- A node's name and its place both lead to its device. -/
theorem nd_once (h : Nok T rs) {n : Nd} (hn : n ∈ mkN T rs) : ∃ i, ∃ hi : i < T.length, T.findIdx? (nodeP n.name) = some i ∧ T.findIdx? (placeP T n.path) = some i ∧ T[i].kind = n.kind ∧ T[i].num = n.num := by
  obtain ⟨d, hd, h1, h2, h3, h4, _⟩ := nd_dev h hn
  obtain ⟨i, hi, e1, e2⟩ := first_at (p := nodeP n.name) hd (by simp [nodeP, h1]) fun e he hp => nodeD_inj h.t he hd (by simpa [nodeP] using hp) h1
  obtain ⟨j, hj, e3, e4⟩ := first_at (p := placeP T n.path) hd (by simp [placeP, h4]) fun e he hp => place_inj h he hd (by simpa [placeP, h4] using hp)
  have hij : i = j := by
    have hp := List.pairwise_iff_getElem.1 h.t.nd
    rcases Nat.lt_trichotomy i j with h5 | h5 | h5
    · exact absurd (by rw [e2, e4]) (hp i j hi hj h5)
    · exact h5
    · exact absurd (by rw [e2, e4]) (hp j i hj hi h5)
  subst hij
  exact ⟨i, hi, e1, e3, by rw [e2, h2], by rw [e2, h3]⟩
end
end Go.Ab
namespace Go.Ab
open Go Go.Proofs Go.Sort
set_option maxRecDepth 20000
theorem CloneA_c (l : List (Txt × Txt)) (hl : l.length ≤ 100000) : ACalls Tryz.prog 130 [.imm (l.map aRow)] [] (.imm (l.map aRow)) [] := by
  have hcl := fun k => aRows_cl k l
  cases l with
  | nil =>
    refine ACalls.emp rfl fun a cp => ?_
    refine acalls_F c130_ok rfl ?_
    unfold c130
    cases a with
    | none => simp +decide -dsimp -implicitDefEqProofs [go_sem]
    | some a => simp +decide -dsimp -implicitDefEqProofs [go_sem]
  | cons x l =>
    simp only [List.length_cons] at hl
    refine acalls_F c130_ok rfl ?_
    unfold c130
    simp +decide -dsimp -implicitDefEqProofs [go_sem, maxLen, aRow]
    exact ⟨fun _ _ _ _ h => by subst h; rfl, by omega, by omega⟩
theorem copied_c (d : Dvc) (hl : d.attrs.length ≤ 100000) : ACalls Tryz.prog 87 [.agg (dcRow d)] [] (.agg (dcRow d)) [] := by
  have hc := fun k => aRows_cl k d.attrs
  have c := CloneA_c d.attrs hl
  refine acalls_F c87_ok rfl ?_
  unfold c87
  rw [dcRow_eq]
  simp +decide -dsimp -implicitDefEqProofs [go_sem]
  refine callE_pure c (by simp +decide -dsimp -implicitDefEqProofs [go_sem, hc]) (by simp +decide -dsimp -implicitDefEqProofs [go_sem, hc]) ?_
  simp +decide -dsimp -implicitDefEqProofs [go_sem, hc]
theorem IndexD_c (T : List Dvc) (F : Nat) (caps : List AV) (H : List AObj) (p : Dvc → Bool) (hl : T.length < 1000000000) (hc : closedL H.length caps = true) (hH : selfH H)
    (hf : ∀ d ∈ T, ACalls Tryz.prog F (.agg (dcRow d) :: caps) H (.bool (p d)) H) :
    ACalls Tryz.prog 86 [.imm (T.map dcRow), .fn (.func F) [] caps] H (.int .i64 (idxI (T.findIdx? p))) H := by
  have hcl := fun k => dcRows_cl k T
  refine acalls_F c86_ok rfl ?_
  unfold c86
  simp +decide -dsimp -implicitDefEqProofs [go_sem]
  refine loop_of (S := Nat) (fun i => ⟨tmps 19 [(0, .imm (T.map dcRow)), (1, .fn (.func F) [] caps), (7, .int .i64 T.length), (8, .int .i64 i)], H⟩) (fun i => T.length - i) (fun i => i ≤ T.length ∧ ∀ x ∈ T.take i, p x = false) 0 (by simp) (cut_of (by simp) ?_) ?_
  · simp +decide -dsimp -implicitDefEqProofs [go_sem, hc, hcl]; exact hH
  intro i hi
  by_cases h : i < T.length
  · have w : IntKind.i64.wrap ((i : Int) + 1) = i + 1 := w64 (by omega) (by omega)
    have cf := hf T[i] (List.getElem_mem h)
    rw [dcRow_eq] at cf
    simp +decide -dsimp -implicitDefEqProofs [go_sem, h, dcRow_eq]
    refine callE_of cf ?_
    by_cases hp : p T[i] = true
    · simp +decide -dsimp -implicitDefEqProofs [go_sem, hp, findIdx?_at h hp hi.2, idxI]; exact hH
    · simp +decide -dsimp -implicitDefEqProofs [go_sem, hp, w]
      refine next_of (i + 1) ⟨by omega, fun x hx => ?_⟩ (by omega) (cut_of (by simp) ?_)
      · rw [List.take_succ_eq_append_getElem h] at hx
        rcases List.mem_append.1 hx with hx | hx
        · exact hi.2 x hx
        · simp at hx; subst hx; simpa using hp
      simp +decide -dsimp -implicitDefEqProofs [go_sem, hc, hcl]; exact hH
  · have e : i = T.length := by omega
    have h2 := hi.2
    rw [e, List.take_length] at h2
    have h3 : T.findIdx? p = none := by rw [List.findIdx?_eq_none_iff]; exact fun x hx => by simp [h2 x hx]
    simp +decide -dsimp -implicitDefEqProofs [go_sem, h, h3, idxI]; exact hH
theorem nodeIs_c (d : Dvc) (s : Txt) (h : d.orig ∈ oS) : ACalls Tryz.prog 51 [.agg (dcRow d), .ptr 0 0] [.box 9 [.str s]] (.bool (nodeP s d)) [.box 9 [.str s]] := by
  have hc := fun k => aRows_cl k d.attrs
  have c := dnode_c d h
  unfold nodeP
  refine acalls_F c51_ok rfl ?_
  unfold c51
  rw [dcRow_eq] at c ⊢
  simp +decide -dsimp -implicitDefEqProofs [go_sem]
  cases hn : nodeD d with
  | none =>
    rw [hn] at c
    generalize htv : ndV none = tv at c
    refine callE_pure c (by simp +decide -dsimp -implicitDefEqProofs [go_sem, hc]) (by rw [← htv]; rfl) ?_
    subst htv
    unfold ndV
    simp +decide -dsimp -implicitDefEqProofs [go_sem]
  | some u =>
    rw [hn] at c
    generalize htv : ndV (some u) = tv at c
    refine callE_pure c (by simp +decide -dsimp -implicitDefEqProofs [go_sem, hc]) (by rw [← htv]; rfl) ?_
    subst htv
    unfold ndV
    simp +decide -dsimp -implicitDefEqProofs [go_sem]
    by_cases h : u = s <;> simp [h]
def bxS (s : Txt) : AObj := .box 9 [.str s]
theorem firstN_c (T : List Dvc) (s : Txt) (hS : ∀ d ∈ T, d.orig ∈ oS) (hl : T.length < 1000000) {i : Nat} (hi : i < T.length) (hp : T.findIdx? (nodeP s) = some i) (ha : T[i].attrs.length ≤ 100000) :
    ACalls Tryz.prog 50 [.agg [.imm (T.map dcRow)], .fn (.func 51) [] [.ptr 0 0]] [.box 9 [.str s]] (.tup [.agg (dcRow T[i]), .bool true]) [.box 9 [.str s]] := by
  have hcl := fun k => dcRows_cl k T
  have hrl := fun is => renLL_dcRows is T
  have hac := fun k => aRows_cl k T[i].attrs
  have c1 := IndexD_c T 51 [.ptr 0 0] [.box 9 [.str s]] (nodeP s) (by omega) rfl (by simp +decide -dsimp -implicitDefEqProofs [go_sem, selfH, cvH, cvO]) fun d hd => nodeIs_c d s (hS d hd)
  have c2 := copied_c T[i] ha
  rw [hp] at c1
  simp only [idxI] at c1
  rw [dcRow_eq] at c2 ⊢
  refine acalls_F c50_ok rfl ?_
  unfold c50
  simp +decide -dsimp -implicitDefEqProofs [go_sem]
  refine callE_frame [0] c1 rfl rfl (by simp) (by simp +decide -dsimp -implicitDefEqProofs [go_sem, hrl]) (by simp +decide -dsimp -implicitDefEqProofs [go_sem]) ?_
  have n0 : ¬ (i : Int) < 0 := by omega
  simp +decide -dsimp -implicitDefEqProofs [go_sem, n0, hi, dcRow_eq]
  refine callE_pure c2 (by simp +decide -dsimp -implicitDefEqProofs [go_sem, hac]) (by simp +decide -dsimp -implicitDefEqProofs [go_sem, hac]) ?_
  simp +decide -dsimp -implicitDefEqProofs [go_sem, hac]
theorem Node_c (T : List Dvc) (s : Txt) (hS : ∀ d ∈ T, d.orig ∈ oS) (hl : T.length < 1000000) {i : Nat} (hi : i < T.length) (hp : T.findIdx? (nodeP s) = some i) (ha : T[i].attrs.length ≤ 100000) :
    ACalls Tryz.prog 29 [.agg [.imm (T.map dcRow)], .str s] [] (.tup [.agg (dcRow T[i]), .bool true]) [] := by
  have hcl := fun k => dcRows_cl k T
  have hrl := fun is => renLL_dcRows is T
  have hac := fun k => aRows_cl k T[i].attrs
  have hra := fun is => renLL_aRows is T[i].attrs
  have c := firstN_c T s hS hl hi hp ha
  rw [dcRow_eq] at c ⊢
  generalize htv : AV.tup [AV.agg [.int .i64 T[i].idx, .int .i64 T[i].par, .str T[i].name, .str T[i].orig, .str T[i].sub, .str T[i].drv, .str T[i].ali, .int .i64 T[i].kind, .int .i64 T[i].num, .imm (T[i].attrs.map aRow)], AV.bool true] = tv at c
  refine acalls_F c29_ok rfl ?_
  unfold c29
  simp +decide -dsimp -implicitDefEqProofs [go_sem]
  refine callE_frame [1] c rfl rfl (by simp) (by simp +decide -dsimp -implicitDefEqProofs [go_sem, hrl]) (by simp +decide -dsimp -implicitDefEqProofs [go_sem]) ?_
  subst htv
  simp +decide -dsimp -implicitDefEqProofs [go_sem, hra, hac]
end Go.Ab
namespace Go.Ab
open Go Go.Proofs Go.Sort
theorem joinP_snoc : ∀ (l : List Txt) (x : Txt), joinP (l ++ [x]) = joinP l ++ 47 :: x
  | [], x => by simp [joinP]
  | y :: l, x => by rw [List.cons_append, joinP, joinP_snoc l x, joinP]; simp
theorem set_int (n : Int) (v : AV) : ∀ L : List (AV × AV), (∀ p ∈ L, ∃ m : Int, p.1 = .int .i64 m ∧ m ≠ n) → setKv (.int .i64 n) v L = L ++ [(.int .i64 n, v)]
  | [], _ => rfl
  | p :: L, h => by
    have ih := set_int n v L fun x hx => h x (by simp [hx])
    obtain ⟨m, h1, h2⟩ := h p (by simp)
    obtain ⟨a, b⟩ := p
    simp only at h1
    subst h1
    have h3 : ¬ n = m := fun e => h2 e.symm
    rw [setKv]
    simp [keyB, scalarEq, h3, ih]
theorem keys_int (n : Int) (L : List (AV × AV)) (h : ∀ p ∈ L, ∃ m : Int, p.1 = .int .i64 m) : keysOk (.int .i64) (.int .i64 n) L := by
  refine ⟨by simp [keyOk], fun p hp => ?_⟩
  obtain ⟨m, h1⟩ := h p hp
  simp [h1, keyOk]
def kvO (T : List Dvc) (d : Dvc) : AV × AV := (.int .i64 d.idx, .str (placeT T d.idx))
def kvP (p : Dvc × Nat) : AV × AV := (.int .i64 p.1.idx, .int .i64 p.2)
theorem find_kvO (T : List Dvc) (n : Int) : ∀ l : List Dvc, findKv (.int .i64 n) (l.map (kvO T)) = (findD l n).map fun d => AV.str (placeT T d.idx)
  | [] => rfl
  | r :: l => by
    have ih := find_kvO T n l
    unfold findD at ih ⊢
    rw [List.map_cons, findKv, List.find?_cons]
    by_cases h : r.idx = n
    · simp [kvO, keyB, scalarEq, h]
    · have h2 : ¬ n = r.idx := fun e => h e.symm
      simp [kvO, keyB, scalarEq, h, h2]
      simpa [kvO] using ih
section
variable {S : Dvc → Prop} {T : List Dvc}
theorem orgL_zero (hT : TreeOk S T) : orgL T 0 = [] := by
  unfold orgL chain
  cases h : T.length with
  | zero => rfl
  | succ f => rw [chainF, findD_none hT (.inl (by omega))]; rfl
theorem orgL_step (hT : TreeOk S T) {d : Dvc} (hd : d ∈ T) : orgL T d.idx = orgL T d.par ++ [d.orig] := by
  have hx := hT.ix d hd
  have hp := hT.par d hd
  obtain ⟨f, hf⟩ : ∃ f, T.length = f + 1 := ⟨T.length - 1, by omega⟩
  unfold orgL chain
  rw [chainF_fuel hT T.length f d.par (by omega) (by omega), hf, chainF, findD_mem hT.nd hd]
  simp
theorem place_step (hT : TreeOk S T) {d : Dvc} (hd : d ∈ T) : placeT T d.idx = placeT T d.par ++ 47 :: d.orig := by
  rw [placeT, orgL_step hT hd, joinP_snoc]; rfl
theorem lt_snoc {l : List Txt} {x : Txt} : ¬ (l ++ [x] < l) := by
  induction l with
  | nil => simp
  | cons y l ih =>
    rw [List.cons_append, List.cons_lt_cons_iff]
    rintro (h | ⟨_, h⟩)
    · exact List.lt_irrefl _ h
    · exact ih h
theorem par_before (hT : TreeOk S T) {i : Nat} (h : i < T.length) (h0 : T[i].par ≠ 0) : ∃ j, ∃ hj : j < i, T[j].idx = T[i].par := by
  have hx := hT.ix _ (List.getElem_mem h)
  have hp := hT.par _ (List.getElem_mem h)
  obtain ⟨e, he, h1⟩ := hT.full T[i].par (by omega) (by omega)
  obtain ⟨j, hj, rfl⟩ := List.mem_iff_getElem.1 he
  have hs := orgL_step hT (List.getElem_mem h)
  rcases Nat.lt_trichotomy j i with h2 | h2 | h2
  · exact ⟨j, h2, h1⟩
  · subst h2; omega
  · have h3 := List.pairwise_iff_getElem.1 hT.so i j h hj h2
    rw [hs, h1] at h3
    exact absurd h3 lt_snoc
theorem look_at (hT : TreeOk S T) {i : Nat} (h : i < T.length) : (findKv (.int .i64 T[i].par) ((T.take i).map (kvO T))).getD (.str []) = .str (placeT T T[i].par) := by
  rw [find_kvO]
  by_cases h0 : T[i].par = 0
  · rw [h0]
    have : findD (T.take i) 0 = none := List.find?_eq_none.2 fun x hx => by
      have := hT.ix x (List.mem_of_mem_take hx)
      simp; omega
    rw [this, placeT, orgL_zero hT]
    rfl
  · obtain ⟨j, hj, h1⟩ := par_before hT h h0
    cases hf : findD (T.take i) T[i].par with
    | none =>
      have hm : T[j] ∈ T.take i := by
        rw [List.mem_take_iff_getElem]
        exact ⟨j, by omega, rfl⟩
      have := List.find?_eq_none.1 hf _ hm
      simp [h1] at this
    | some e =>
      rw [Option.map_some, Option.getD_some, (findD_some hf).2]
theorem kvO_at (hT : TreeOk S T) {d : Dvc} (hd : d ∈ T) : (findKv (.int .i64 d.idx) (T.map (kvO T))).getD (.str []) = .str (placeT T d.idx) := by
  rw [find_kvO, findD_mem hT.nd hd]; rfl
theorem kvO_new (hT : TreeOk S T) {i : Nat} (h : i < T.length) : setKv (.int .i64 T[i].idx) (.str (placeT T T[i].par ++ 47 :: T[i].orig)) ((T.take i).map (kvO T)) = (T.take (i + 1)).map (kvO T) := by
  rw [set_int, List.take_succ_eq_append_getElem h, List.map_append, List.map_singleton, kvO, place_step hT (List.getElem_mem h)]
  intro p hp
  obtain ⟨x, hx, rfl⟩ := List.mem_map.1 hp
  refine ⟨x.idx, rfl, ?_⟩
  obtain ⟨j, hj, rfl⟩ := List.mem_iff_getElem.1 hx
  rw [List.length_take] at hj
  rw [List.getElem_take]
  exact List.pairwise_iff_getElem.1 hT.nd j i (by omega) h (by omega)
theorem kvP_new (hT : TreeOk S T) {i : Nat} (h : i < T.length) : setKv (.int .i64 T[i].idx) (.int .i64 i) ((T.take i).zipIdx.map kvP) = (T.take (i + 1)).zipIdx.map kvP := by
  rw [set_int, List.take_succ_eq_append_getElem h, List.zipIdx_append, List.map_append]
  · simp [kvP]; omega
  intro p hp
  obtain ⟨⟨x, k⟩, hx, rfl⟩ := List.mem_map.1 hp
  refine ⟨x.idx, rfl, ?_⟩
  have hm := List.fst_mem_of_mem_zipIdx hx
  obtain ⟨j, hj, rfl⟩ := List.mem_iff_getElem.1 hm
  rw [List.length_take] at hj
  rw [List.getElem_take]
  exact List.pairwise_iff_getElem.1 hT.nd j i (by omega) h (by omega)
theorem kvO_keys (T l : List Dvc) (n : Int) : keysOk (.int .i64) (.int .i64 n) (l.map (kvO T)) := keys_int n _ fun p hp => by
  obtain ⟨x, _, rfl⟩ := List.mem_map.1 hp
  exact ⟨x.idx, rfl⟩
theorem kvP_keys (l : List (Dvc × Nat)) (n : Int) : keysOk (.int .i64) (.int .i64 n) (l.map kvP) := keys_int n _ fun p hp => by
  obtain ⟨x, _, rfl⟩ := List.mem_map.1 hp
  exact ⟨x.1.idx, rfl⟩
theorem kvO_clm (k : Nat) (T l : List Dvc) : ∀ a b : AV, (a, b) ∈ l.map (kvO T) → closed k a = true ∧ closed k b = true := fun a b h => by
  obtain ⟨r, _, e⟩ := List.mem_map.1 h
  cases e
  exact ⟨rfl, rfl⟩
theorem kvP_clm (k : Nat) (l : List (Dvc × Nat)) : ∀ a b : AV, (a, b) ∈ l.map kvP → closed k a = true ∧ closed k b = true := fun a b h => by
  obtain ⟨r, _, e⟩ := List.mem_map.1 h
  cases e
  exact ⟨rfl, rfl⟩
theorem kvO_ren (is : List Nat) (T : List Dvc) : ∀ l : List Dvc, renKv is (l.map (kvO T)) = l.map (kvO T)
  | [] => rfl
  | x :: l => by rw [List.map_cons, renKv, kvO_ren is T l]; rfl
theorem kvP_ren (is : List Nat) : ∀ l : List (Dvc × Nat), renKv is (l.map kvP) = l.map kvP
  | [] => rfl
  | x :: l => by rw [List.map_cons, renKv, kvP_ren is l]; rfl
theorem place_len {B : Nat} (hT : TreeOk S T) (ho : ∀ d ∈ T, d.orig.length ≤ B) {n : Int} (h : n ≤ T.length) : (placeT T n).length ≤ 7 * (B + 1) := by
  have h1 : (orgL T n).length ≤ 7 := by
    by_cases h0 : n ≤ 0
    · have : orgL T n = [] := by
        unfold orgL chain
        cases h : T.length with
        | zero => rfl
        | succ f => rw [chainF, findD_none hT (.inl (by omega))]; rfl
      rw [this]; simp
    · obtain ⟨d, hd, he⟩ := hT.full n (by omega) h
      rw [← he]; exact hT.dp d hd
  have h2 := joinP_len (B := B) (l := orgL T n) fun x hx => by
    obtain ⟨d, hd, rfl⟩ := orgL_mem hx
    exact ho d hd
  unfold placeT
  exact Nat.le_trans h2 (Nat.mul_le_mul_right _ h1)
end
end Go.Ab
namespace Go.Ab
open Go Go.Proofs Go.Sort
set_option maxRecDepth 20000
set_option maxHeartbeats 4000000 in
theorem look_c {T : List Dvc} (hT : TreeOk Fine T) (hl : T.length ≤ 100) : ACalls Tryz.prog 53 [.agg [.imm (T.map dcRow)]] [] (.agg [.imm (T.map dcRow), .map 0, .map 1]) [.map (T.zipIdx.map kvP), .map (T.map (kvO T)), .box 94 [.imm (T.map dcRow), .map 0, .map 1]] := by
  have hcl := fun k (T : List Dvc) => dcRows_cl k T
  have ho : ∀ d ∈ T, d.orig.length ≤ 9 := fun d hd => (oS_v _ (hT.dv d hd).o).2.2
  refine acalls_W1 c53_ok ?_
  unfold c53
  simp +decide -dsimp -implicitDefEqProofs [go_sem]
  refine loop_of (S := Nat) (fun i => ⟨tmps 41 [(1, .ptr 0 0), (2, .ptr 1 0), (3, .ptr 4 0), (13, .imm (T.map dcRow)), (14, .int .i64 T.length), (15, .int .i64 i)], [.box 28 [.imm (T.map dcRow)], .box 94 [.nils, .nilm, .nilm], .map ((T.take i).zipIdx.map kvP), .map ((T.take i).map (kvO T)), .box 94 [.imm (T.map dcRow), .map 2, .map 3]]⟩) (fun i => T.length - i) (fun i => i ≤ T.length) 0 (by simp) (cut_of (by simp) ?_) ?_
  · simp +decide -dsimp -implicitDefEqProofs [go_sem, hcl]
  intro i hi
  by_cases h : i < T.length
  · have wi : IntKind.i64.wrap ((i : Int) + 1) = i + 1 := w64 (by omega) (by omega)
    have hm : T[i] ∈ T := List.getElem_mem h
    have hp := hT.par _ hm
    have hx := hT.ix _ hm
    have hq := place_len hT ho (n := T[i].par) (by omega)
    have hol := ho _ hm
    have k1 := kvP_keys (T.take i).zipIdx T[i].idx
    have k2 := kvO_keys T (T.take i) T[i].idx
    have k3 := kvO_keys T (T.take i) T[i].par
    have s1 := kvP_new hT h
    have s2 := kvO_new hT h
    have f1 := look_at hT h
    generalize placeT T T[i].par = Q at s2 f1 hq
    generalize (T.take i).zipIdx.map kvP = A at k1 s1
    generalize (T.take i).map (kvO T) = B at k2 k3 s2 f1
    have c1 := kvP_clm 5 (T.take (i + 1)).zipIdx
    have c2 := kvO_clm 5 T (T.take (i + 1))
    generalize hA : (T.take (i + 1)).zipIdx.map kvP = A' at s1 c1
    generalize hB : (T.take (i + 1)).map (kvO T) = B' at s2 c2
    have hac := fun k => aRows_cl k T[i].attrs
    simp +decide -dsimp -implicitDefEqProofs [go_sem, h, dcRow_eq, k1, k2, k3, f1, s1, s2, wi]
    refine ⟨by omega, by omega, next_of (i + 1) (by show i + 1 ≤ T.length; omega) (by show T.length - (i + 1) < T.length - i; omega) (cut_of (by simp) ?_)⟩
    rw [hA, hB]
    simp +decide -dsimp -implicitDefEqProofs [go_sem, hcl]
    exact ⟨fun a b => c1 a b, fun a b => c2 a b⟩
  · have e : i = T.length := by omega
    subst e
    rw [List.take_length]
    simp +decide -dsimp -implicitDefEqProofs [go_sem]
    refine endW_of ([.junk, .junk, .ptr 2 0] ++ List.replicate 38 .junk) [.map (T.zipIdx.map kvP), .map (T.map (kvO T)), .box 94 [.imm (T.map dcRow), .map 0, .map 1]] (Wk.ren [2, 3, 1] (by decide) rfl (by decide) (fun j hj => absurd hj (by simp)) (fun j m s l hj => absurd hj (by simp)) (by simp [renO, renL, ren, renLL_dcRows, kvP_ren, kvO_ren]) (by simp +decide [rnT, ren])) ?_
    simp +decide -dsimp -implicitDefEqProofs [go_sem, packR]
def mpO (T : List Dvc) (s : Txt) : List AObj := [.box 94 [.imm (T.map dcRow), .map 2, .map 3], .box 9 [.str s], .map (T.zipIdx.map kvP), .map (T.map (kvO T))]
theorem originIs_c {T : List Dvc} (hT : TreeOk Fine T) {d : Dvc} (hd : d ∈ T) (s : Txt) : ACalls Tryz.prog 54 [.agg (dcRow d), .ptr 0 0, .ptr 1 0] (mpO T s) (.bool (placeP T s d)) (mpO T s) := by
  have hcl := fun k (T : List Dvc) => dcRows_cl k T
  have k1 := kvO_keys T T d.idx
  have f1 := kvO_at hT hd
  have hac := fun k => aRows_cl k d.attrs
  unfold placeP mpO
  have c1 := kvP_clm 4 T.zipIdx
  have c2 := kvO_clm 4 T T
  generalize T.zipIdx.map kvP = A at c1
  generalize T.map (kvO T) = B at k1 f1 c2
  generalize placeT T d.idx = Q at f1
  refine acalls_F c54_ok rfl ?_
  unfold c54
  rw [dcRow_eq]
  simp +decide -dsimp -implicitDefEqProofs [go_sem, k1, f1, hcl]
  exact ⟨by by_cases h : Q = s <;> simp [h], fun a b => c1 a b, fun a b => c2 a b⟩
theorem mpO_self (T : List Dvc) (s : Txt) : selfH (mpO T s) := by
  have hcl := fun k (T : List Dvc) => dcRows_cl k T
  unfold mpO
  have c1 := kvP_clm 4 T.zipIdx
  have c2 := kvO_clm 4 T T
  generalize T.zipIdx.map kvP = A at c1 ⊢
  generalize T.map (kvO T) = B at c2 ⊢
  simp +decide -dsimp -implicitDefEqProofs [go_sem, selfH, cvH, cvO, hcl]
  exact ⟨fun a b => c1 a b, fun a b => c2 a b⟩
theorem firstO_c {T : List Dvc} (hT : TreeOk Fine T) (hl : T.length ≤ 100) (s : Txt) {i : Nat} (hi : i < T.length) (hp : T.findIdx? (placeP T s) = some i) (ha : T[i].attrs.length ≤ 100000) :
    ACalls Tryz.prog 50 [.agg [.imm (T.map dcRow)], .fn (.func 54) [] [.ptr 0 0, .ptr 1 0]] (mpO T s) (.tup [.agg (dcRow T[i]), .bool true]) (mpO T s) := by
  have hcl := fun k => dcRows_cl k T
  have hrl := fun is => renLL_dcRows is T
  have hac := fun k => aRows_cl k T[i].attrs
  have hkv1 := fun is => kvP_ren is T.zipIdx
  have hkv2 := fun is => kvO_ren is T T
  have c1 := IndexD_c T 54 [.ptr 0 0, .ptr 1 0] (mpO T s) (placeP T s) (by omega) rfl (mpO_self T s) fun d hd => originIs_c hT hd s
  have c2 := copied_c T[i] ha
  rw [hp] at c1
  simp only [idxI] at c1
  rw [dcRow_eq] at c2 ⊢
  unfold mpO at c1 ⊢
  refine acalls_F c50_ok rfl ?_
  unfold c50
  simp +decide -dsimp -implicitDefEqProofs [go_sem]
  refine callE_frame [0, 1, 2, 3] c1 rfl rfl (by simp) (by simp +decide -dsimp -implicitDefEqProofs [go_sem, hrl]) (by simp +decide -dsimp -implicitDefEqProofs [go_sem, hrl, hkv1, hkv2]) ?_
  have n0 : ¬ (i : Int) < 0 := by omega
  simp +decide -dsimp -implicitDefEqProofs [go_sem, n0, hi, dcRow_eq, hrl, hkv1, hkv2]
  refine callE_pure c2 (by simp +decide -dsimp -implicitDefEqProofs [go_sem, hac]) (by simp +decide -dsimp -implicitDefEqProofs [go_sem, hac]) ?_
  simp +decide -dsimp -implicitDefEqProofs [go_sem, hac]
  exact ⟨hcl _, fun a b _ => ⟨rfl, rfl⟩, fun x _ => ⟨rfl, rfl⟩⟩
theorem At_c {T : List Dvc} (hT : TreeOk Fine T) (hl : T.length ≤ 100) (s : Txt) {i : Nat} (hi : i < T.length) (hp : T.findIdx? (placeP T s) = some i) (ha : T[i].attrs.length ≤ 100000) :
    ACalls Tryz.prog 30 [.agg [.imm (T.map dcRow)], .str s] [] (.tup [.agg (dcRow T[i]), .bool true]) [] := by
  have hcl := fun k => dcRows_cl k T
  have hrl := fun is => renLL_dcRows is T
  have hac := fun k => aRows_cl k T[i].attrs
  have hra := fun is => renLL_aRows is T[i].attrs
  have hkv1 := fun is => kvP_ren is T.zipIdx
  have hkv2 := fun is => kvO_ren is T T
  have c0 := (look_c hT hl).toR
  have c := firstO_c hT hl s hi hp ha
  unfold mpO at c
  rw [dcRow_eq] at c ⊢
  generalize htv : AV.tup [AV.agg [.int .i64 T[i].idx, .int .i64 T[i].par, .str T[i].name, .str T[i].orig, .str T[i].sub, .str T[i].drv, .str T[i].ali, .int .i64 T[i].kind, .int .i64 T[i].num, .imm (T[i].attrs.map aRow)], AV.bool true] = tv at c
  refine acalls_F c30_ok rfl ?_
  unfold c30
  simp +decide -dsimp -implicitDefEqProofs [go_sem]
  refine callE_grow [] 3 c0 rfl (fun v G ⟨_, hG⟩ => by rw [hG]; rfl) (by show (List.range' 3 3).Nodup; decide) (by simp +decide -dsimp -implicitDefEqProofs [go_sem, hrl]) (by simp) ?_
  rintro _ _ ⟨rfl, rfl⟩
  simp +decide -dsimp -implicitDefEqProofs [go_sem, hrl, hkv1, hkv2, show List.range' 3 3 = [3, 4, 5] from rfl]
  refine callE_frame [6, 1, 3, 4] c rfl rfl (by simp) (by simp +decide -dsimp -implicitDefEqProofs [go_sem, hrl]) (by simp +decide -dsimp -implicitDefEqProofs [go_sem, hrl, hkv1, hkv2]) ?_
  subst htv
  simp +decide -dsimp -implicitDefEqProofs [go_sem, hra, hac]
end Go.Ab
namespace Go.Ab
open Go Go.Proofs Go.Sort
set_option maxRecDepth 20000
set_option maxHeartbeats 16000000 in
theorem NodeOnce_c (l : List Int) : ACalls Tryz.prog 8 [tapeVs l] [] (.bool true) [] := by
  have hcl := fun k (T : List Dvc) => dcRows_cl k T
  have hrl := fun k (l : List Rcd) => rcRows_cl k l
  have hnl := fun k (l : List Nd) => ndRows_cl k l
  have hlc := closedLL_lkRows
  have hrd := renLL_dcRows
  have hrr := renLL_rcRows
  have ct : ACallsR Tryz.prog 10 [.ptr 0 0, .int .i64 9] [tapeO l 0] (treeR l 0 9) := tree_c l 0 9 (by omega) (by omega)
  refine acalls_A c8_ok rfl ?_
  unfold c8 tapeVs
  have htc := fun k => tape_closed k l
  refine awp_cut ⟨tmps 148 [(0, .imm (l.map fun v => [.int .i64 v]))], []⟩ (awp_of ?_) ?_
  · simp +decide -dsimp -implicitDefEqProofs [go_sem]
    refine cut_of (by simp) ?_
    simp +decide -dsimp -implicitDefEqProofs [go_sem, htc]
  refine awp_cut ⟨tmps 148 [(3, .ptr 0 0)], [tapeO l 0]⟩ (awp_of ?_) ?_
  · simp +decide -dsimp -implicitDefEqProofs [go_sem]
    refine cut_of (by simp) ?_
    simp +decide -dsimp -implicitDefEqProofs [go_sem, htc, tapeO]
  refine awp_cutX (S := List Dvc × Nat) (fun s => ⟨tmps 148 [(3, .ptr 0 0), (4, .ptr 1 0)], [tapeO l s.2, .box 28 [.imm (s.1.map dcRow)]]⟩) (fun s => TreeOk Fine s.1 ∧ s.1.length ≤ 9 ∧ s.2 ≤ 0 + 1 + 20 * 9) (awp_of ?_) ?_
  · simp +decide -dsimp -implicitDefEqProofs [go_sem]
    refine callE_frameR [0] ct rfl (fun v G ⟨_, _, _, hG, _⟩ => by rw [hG]; rfl) (by simp) (by simp +decide -dsimp -implicitDefEqProofs [go_sem]) (by simp +decide -dsimp -implicitDefEqProofs [go_sem, tapeO_ren]) ?_
    rintro _ _ ⟨T, k, rfl, rfl, hT, hl, hk⟩
    simp +decide -dsimp -implicitDefEqProofs [go_sem, tapeO_ren, hrd]
    refine cutX_of (T, k) ⟨hT, hl, hk⟩ (cut_of (by simp) ?_)
    simp +decide -dsimp -implicitDefEqProofs [go_sem, htc, tapeO, hcl]
  rintro ⟨T, k⟩ ⟨hT, hl, hk⟩
  simp only at hT hl hk ⊢
  have cr := records_c l k T (by omega) hT (by omega)
  refine awp_cutX (S := List Rcd × Nat) (fun s => ⟨tmps 148 [(4, .ptr 1 0), (5, .imm (s.1.map rcRow))], [tapeO l s.2, .box 28 [.imm (T.map dcRow)]]⟩) (fun s => RecsOk T s.1 ∧ s.1.length ≤ T.length) (awp_of ?_) ?_
  · simp +decide -dsimp -implicitDefEqProofs [go_sem]
    refine callE_frameR [0] cr rfl (fun v G ⟨_, _, _, hG, _⟩ => by rw [hG]; rfl) (by simp) (by simp +decide -dsimp -implicitDefEqProofs [go_sem, hrd]) (by simp +decide -dsimp -implicitDefEqProofs [go_sem, tapeO_ren]) ?_
    rintro _ _ ⟨rs, k2, rfl, rfl, hR, hr, hk2⟩
    simp +decide -dsimp -implicitDefEqProofs [go_sem, tapeO_ren, hrr]
    refine cutX_of (rs, k2) ⟨hR, hr⟩ (cut_of (by simp) ?_)
    simp +decide -dsimp -implicitDefEqProofs [go_sem, htc, tapeO, hcl, hrl]
  rintro ⟨rs, k2⟩ ⟨hR, hr⟩
  simp only at hR hr ⊢
  have hN := nok_of hT hl hR hr
  have p1 := hN.mkc
  have p2 := links_c hN
  have hnd := fun {i : Nat} (h : i < (mkN T rs).length) => nd_once hN (List.getElem_mem h)
  have hna := fun {i j : Nat} (hi : i < (mkN T rs).length) (hj : j < (mkN T rs).length) (hij : j < i) => names_at hN hi hj hij
  have hln := fun {x : Lk} (hx : x ∈ lnkN T rs) => lnk_nd hN hx
  have hnl9 := hN.nl
  have hll9 := hN.len
  generalize lnkN T rs = L at p2 hln hll9
  generalize mkN T rs = N at p1 hnd hna hln hnl9
  have hat : ∀ {i : Nat} (h : i < T.length), T[i].attrs.length ≤ 100000 := fun h => Nat.le_trans (hT.dv _ (List.getElem_mem h)).al6 (by decide)
  refine awp_cut ⟨tmps 148 [(4, .ptr 1 0), (6, .imm (N.map ndRow)), (7, .imm (L.map lkRow))], [tapeO l k2, .box 28 [.imm (T.map dcRow)]]⟩ (awp_of ?_) ?_
  · simp +decide -dsimp -implicitDefEqProofs [go_sem]
    refine callDE_pure p1 (by simp +decide -dsimp -implicitDefEqProofs [go_sem, hcl, hrl]) (by simp +decide -dsimp -implicitDefEqProofs [go_sem, hnl]) ?_
    simp +decide -dsimp -implicitDefEqProofs [go_sem]
    refine callDE_pure p2 (by simp +decide -dsimp -implicitDefEqProofs [go_sem, hcl, hrl]) (by simp +decide -dsimp -implicitDefEqProofs [go_sem, hlc]) ?_
    simp +decide -dsimp -implicitDefEqProofs [go_sem]
    refine cut_of (by simp) ?_
    simp +decide -dsimp -implicitDefEqProofs [go_sem, htc, tapeO, hcl, hnl, hlc]
  refine awp_cut ⟨tmps 148 [(6, .imm (N.map ndRow)), (7, .imm (L.map lkRow))], [tapeO l k2, .box 28 [.imm (T.map dcRow)]]⟩ (awp_of ?_) ?_
  · simp +decide -dsimp -implicitDefEqProofs [go_sem]
    refine loop_of (S := Nat) (fun i => ⟨tmps 148 [(4, .ptr 1 0), (6, .imm (N.map ndRow)), (7, .imm (L.map lkRow)), (8, .int .i64 i)], [tapeO l k2, .box 28 [.imm (T.map dcRow)]]⟩) (fun i => N.length - i) (fun i => i ≤ N.length) 0 (by simp) (cut_of (by simp) ?_) ?_
    · simp +decide -dsimp -implicitDefEqProofs [go_sem, htc, tapeO, hcl, hnl, hlc]
    intro i hi
    by_cases h : i < N.length
    · have wi : IntKind.i64.wrap ((i : Int) + 1) = i + 1 := w64 (by omega) (by omega)
      obtain ⟨j, hj, e1, e2, e3, e4⟩ := hnd h
      have c1 := Node_c T N[i].name hN.S (by omega) hj e1 (hat hj)
      have c2 := At_c hT (by omega) N[i].path hj e2 (hat hj)
      have hac := fun k => aRows_cl k T[j].attrs
      rw [dcRow_eq, e3, e4] at c1 c2
      generalize htv : AV.tup [AV.agg [.int .i64 T[j].idx, .int .i64 T[j].par, .str T[j].name, .str T[j].orig, .str T[j].sub, .str T[j].drv, .str T[j].ali, .int .i64 N[i].kind, .int .i64 N[i].num, .imm (T[j].attrs.map aRow)], AV.bool true] = tv at c1 c2
      have htc2 : closed 0 tv = true := by rw [← htv]; simp +decide -dsimp -implicitDefEqProofs [go_sem, hac]
      simp +decide -dsimp -implicitDefEqProofs [go_sem, h, ndRow_eq]
      refine callDE_pure c1 (by simp +decide -dsimp -implicitDefEqProofs [go_sem, hcl]) htc2 ?_
      subst htv
      simp +decide -dsimp -implicitDefEqProofs [go_sem, h, ndRow_eq]
      generalize htv : AV.tup [AV.agg [.int .i64 T[j].idx, .int .i64 T[j].par, .str T[j].name, .str T[j].orig, .str T[j].sub, .str T[j].drv, .str T[j].ali, .int .i64 N[i].kind, .int .i64 N[i].num, .imm (T[j].attrs.map aRow)], AV.bool true] = tv at c2
      refine callDE_pure c2 (by simp +decide -dsimp -implicitDefEqProofs [go_sem, hcl]) (by rw [← htv]; simp +decide -dsimp -implicitDefEqProofs [go_sem, hac]) ?_
      subst htv
      simp +decide -dsimp -implicitDefEqProofs [go_sem, h, ndRow_eq]
      refine loop_of (S := Nat) (fun k => ⟨tmps 148 [(4, .ptr 1 0), (6, .imm (N.map ndRow)), (7, .imm (L.map lkRow)), (8, .int .i64 i), (13, .int .i64 k)], [tapeO l k2, .box 28 [.imm (T.map dcRow)]]⟩) (fun k => i - k) (fun k => k ≤ i) 0 (by simp) (cut_of (by simp) ?_) ?_
      · simp +decide -dsimp -implicitDefEqProofs [go_sem, htc, tapeO, hcl, hnl, hlc]
      intro k hk
      by_cases h3 : k < i
      · have hkN : k < N.length := by omega
        have wk : IntKind.i64.wrap ((k : Int) + 1) = k + 1 := w64 (by omega) (by omega)
        have hne := hna h hkN h3
        simp +decide -dsimp -implicitDefEqProofs [go_sem, h, h3, hkN, ndRow_eq, hne, wk]
        refine next_of (k + 1) (by show k + 1 ≤ i; omega) (by show i - (k + 1) < i - k; omega) (cut_of (by simp) ?_)
        simp +decide -dsimp -implicitDefEqProofs [go_sem, htc, tapeO, hcl, hnl, hlc]
      · simp +decide -dsimp -implicitDefEqProofs [go_sem, h3, wi]
        refine next_of (i + 1) (by show i + 1 ≤ N.length; omega) (by show N.length - (i + 1) < N.length - i; omega) (cut_of (by simp) ?_)
        simp +decide -dsimp -implicitDefEqProofs [go_sem, htc, tapeO, hcl, hnl, hlc]
    · simp +decide -dsimp -implicitDefEqProofs [go_sem, h]
      refine cut_of (by simp) ?_
      simp +decide -dsimp -implicitDefEqProofs [go_sem, htc, tapeO, hcl, hnl, hlc]
  refine awp_cut ⟨tmps 148 [], [tapeO l k2, .box 28 [.imm (T.map dcRow)]]⟩ (awp_of ?_) ?_
  · simp +decide -dsimp -implicitDefEqProofs [go_sem]
    refine loop_of (S := Nat) (fun i => ⟨tmps 148 [(6, .imm (N.map ndRow)), (7, .imm (L.map lkRow)), (14, .int .i64 i)], [tapeO l k2, .box 28 [.imm (T.map dcRow)]]⟩) (fun i => L.length - i) (fun i => i ≤ L.length) 0 (by simp) (cut_of (by simp) ?_) ?_
    · simp +decide -dsimp -implicitDefEqProofs [go_sem, htc, tapeO, hcl, hnl, hlc]
    intro i hi
    by_cases h : i < L.length
    · have wi : IntKind.i64.wrap ((i : Int) + 1) = i + 1 := w64 (by omega) (by omega)
      obtain ⟨n, hn, hn1, hn2⟩ := hln (List.getElem_mem h)
      simp +decide -dsimp -implicitDefEqProofs [go_sem, h]
      refine loop_of (S := Nat) (fun k => ⟨tmps 148 [(6, .imm (N.map ndRow)), (7, .imm (L.map lkRow)), (14, .int .i64 i), (15, .bool ((N.take k).any fun n => decide (n.name = L[i].node) && decide (n.path = L[i].path))), (16, .int .i64 k)], [tapeO l k2, .box 28 [.imm (T.map dcRow)]]⟩) (fun k => N.length - k) (fun k => k ≤ N.length) 0 (by simp) (cut_of (by simp) ?_) ?_
      · simp +decide -dsimp -implicitDefEqProofs [go_sem, htc, tapeO, hcl, hnl, hlc]
      intro k hk
      by_cases h3 : k < N.length
      · have wk : IntKind.i64.wrap ((k : Int) + 1) = k + 1 := w64 (by omega) (by omega)
        have htk : ((N.take (k + 1)).any fun n => decide (n.name = L[i].node) && decide (n.path = L[i].path)) = (((N.take k).any fun n => decide (n.name = L[i].node) && decide (n.path = L[i].path)) || (decide (N[k].name = L[i].node) && decide (N[k].path = L[i].path))) := by
          rw [List.take_succ_eq_append_getElem h3, List.any_append]; simp
        generalize ((N.take k).any fun n => decide (n.name = L[i].node) && decide (n.path = L[i].path)) = b at htk
        have fin : k + 1 ≤ N.length ∧ N.length - (k + 1) < N.length - k := ⟨by omega, by omega⟩
        by_cases q1 : N[k].name = L[i].node
        · by_cases q2 : N[k].path = L[i].path
          · rw [decide_eq_true q1, decide_eq_true q2, Bool.and_true, Bool.or_true] at htk
            cases b with
            | true => 
              simp +decide -dsimp -implicitDefEqProofs [go_sem, h3, wk]
              refine next_of (k + 1) fin.1 fin.2 (cut_of (by simp) ?_)
              simp +decide -dsimp -implicitDefEqProofs [go_sem, htc, tapeO, hcl, hnl, hlc, htk]
            | false =>
              simp +decide -dsimp -implicitDefEqProofs [go_sem, h, h3, ndRow_eq, lkRow_eq, wk, q1, q2]
              refine next_of (k + 1) fin.1 fin.2 (cut_of (by simp) ?_)
              simp +decide -dsimp -implicitDefEqProofs [go_sem, htc, tapeO, hcl, hnl, hlc, htk]
          · rw [decide_eq_false q2, Bool.and_false, Bool.or_false] at htk
            cases b with
            | true =>
              simp +decide -dsimp -implicitDefEqProofs [go_sem, h3, wk]
              refine next_of (k + 1) fin.1 fin.2 (cut_of (by simp) ?_)
              simp +decide -dsimp -implicitDefEqProofs [go_sem, htc, tapeO, hcl, hnl, hlc, htk]
            | false =>
              simp +decide -dsimp -implicitDefEqProofs [go_sem, h, h3, ndRow_eq, lkRow_eq, wk, q1]
              refine next_of (k + 1) fin.1 fin.2 (cut_of (by simp) ?_)
              simp +decide -dsimp -implicitDefEqProofs [go_sem, htc, tapeO, hcl, hnl, hlc, htk]
              exact q2
        · rw [decide_eq_false q1, Bool.false_and, Bool.or_false] at htk
          cases b with
          | true =>
            simp +decide -dsimp -implicitDefEqProofs [go_sem, h3, wk]
            refine next_of (k + 1) fin.1 fin.2 (cut_of (by simp) ?_)
            simp +decide -dsimp -implicitDefEqProofs [go_sem, htc, tapeO, hcl, hnl, hlc, htk]
          | false =>
            simp +decide -dsimp -implicitDefEqProofs [go_sem, h, h3, ndRow_eq, lkRow_eq, wk, q1]
            refine next_of (k + 1) fin.1 fin.2 (cut_of (by simp) ?_)
            simp +decide -dsimp -implicitDefEqProofs [go_sem, htc, tapeO, hcl, hnl, hlc, htk]
      · have e : k = N.length := by omega
        subst e
        have hany : ((N.take N.length).any fun n => decide (n.name = L[i].node) && decide (n.path = L[i].path)) = true := by
          rw [List.take_length, List.any_eq_true]
          exact ⟨n, hn, by simp [hn1, hn2]⟩
        rw [hany]
        simp +decide -dsimp -implicitDefEqProofs [go_sem, wi]
        refine next_of (i + 1) (by show i + 1 ≤ L.length; omega) (by show L.length - (i + 1) < L.length - i; omega) (cut_of (by simp) ?_)
        simp +decide -dsimp -implicitDefEqProofs [go_sem, htc, tapeO, hcl, hnl, hlc]
    · simp +decide -dsimp -implicitDefEqProofs [go_sem, h]
      refine cut_of (by simp) ?_
      simp +decide -dsimp -implicitDefEqProofs [go_sem, htc, tapeO, hcl]
  refine awp_of ?_
  simp +decide -dsimp -implicitDefEqProofs [go_sem]
  refine callE_pure known_c rfl rfl ?_
  simp +decide -dsimp -implicitDefEqProofs [go_sem]
end Go.Ab
