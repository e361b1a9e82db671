/- A layer of abstract values over the model, and what is proved with it: part X5. -/
import Derived.Test.YtnibflopkjghcaaGreatDoorC1
import Derived.Test.YtnibflopkjghcaaGreatDoorX4
namespace Go.Ab
open Go Go.Proofs
def c21 : AFn := ⟨(.seq (.ops [⟨(some 2), (.mov (.v .nils)), none⟩]) (.seq (.ops [⟨(some 3), (.mov (.v .nils)), none⟩]) (.seq (.seq (.ops [⟨(some 4), (.mov (.v (.int .i64 0))), none⟩]) (.block 0 (.loop (.seq (.seq (.ops [⟨(some 5), (.mov (.t 4)), none⟩, ⟨(some 6), (.mov (.t 0)), none⟩, ⟨(some 7), (.len .sl (.t 6)), none⟩, ⟨(some 8), (.bin .lss (.t 5) (.t 7)), none⟩]) (.cond (.t 8) .skip (.exit 0))) (.seq (.block 1 (.ops [⟨(some 11), (.mov (.t 3)), none⟩, ⟨(some 12), (.mov (.t 0)), none⟩, ⟨(some 13), (.mov (.t 4)), none⟩, ⟨(some 14), (.iaddr none 7 (.t 12) (.t 13)), none⟩, ⟨(some 15), (.faddr 0 (.t 14)), none⟩, ⟨(some 16), (.load none (.t 15)), none⟩, ⟨(some 17), (.call (.v (.fn (.func 47) [] [])) [(.t 11), (.t 16)]), none⟩, ⟨(some 3), (.mov (.t 17)), none⟩])) (.ops [⟨(some 9), (.mov (.t 4)), none⟩, ⟨(some 10), (.bin .add (.t 9) (.v (.int .i64 1))), none⟩, ⟨(some 4), (.mov (.t 10)), none⟩])))))) (.seq (.ops [⟨(some 18), (.mov (.t 3)), none⟩, ⟨(some 2), (.mov (.t 18)), none⟩]) .ret)))), 19, [(.tmp 2)]⟩
theorem c21_ok : compileF Tryz.prog [] 21 = some c21 := by kernel_rfl
def c24 : AFn := ⟨(.seq (.ops [⟨(some 2), (.box 28 (.t 0)), none⟩, ⟨(some 4), (.mov (.v .nils)), none⟩]) (.seq (.draw [⟨(some 5), (.load (some 1) (.t 2)), none⟩, ⟨(some 6), (.mov (.t 1)), none⟩, ⟨(some 7), (.call (.v (.fn (.func 14) [] [])) [(.t 5), (.t 6)]), none⟩, ⟨(some 8), (.call (.v (.fn (.func 21) [] [])) [(.t 7)]), none⟩, ⟨(some 9), (.load (some 1) (.t 2)), none⟩, ⟨(some 10), (.mov (.t 1)), none⟩, ⟨(some 11), (.call (.v (.fn (.func 17) [] [])) [(.t 9), (.t 10)]), none⟩, ⟨(some 12), (.call (.v (.fn (.func 49) [] [])) [(.t 8), (.t 11)]), none⟩, ⟨(some 4), (.mov (.t 12)), none⟩] [0, 0, 3, 7, 0, 0, 63, 127, 255]) .ret)), 13, [(.tmp 4)]⟩
theorem c24_ok : compileF Tryz.prog [] 24 = some c24 := by kernel_rfl
def c27 : AFn := ⟨(.seq (.ops [⟨(some 3), (.box 28 (.t 0)), none⟩, ⟨(some 6), (.mov (.v (.str []))), none⟩, ⟨(some 7), (.mov (.v (.bool false))), none⟩]) (.seq (.draw [⟨(some 12), (.load (some 1) (.t 3)), none⟩, ⟨(some 13), (.mov (.t 1)), none⟩, ⟨(some 14), (.call (.v (.fn (.func 14) [] [])) [(.t 12), (.t 13)]), none⟩, ⟨(some 15), (.load (some 1) (.t 3)), none⟩, ⟨(some 16), (.mov (.t 1)), none⟩, ⟨(some 17), (.call (.v (.fn (.func 24) [] [])) [(.t 15), (.t 16)]), none⟩, ⟨(some 8), (.mov (.t 14)), none⟩, ⟨(some 9), (.mov (.t 17)), none⟩] [0, 0, 3, 0, 0, 31, 63, 127]) (.seq (.seq (.ops [⟨(some 10), (.mov (.v (.int .i64 0))), none⟩]) (.block 0 (.loop (.seq (.seq (.ops [⟨(some 18), (.mov (.t 10)), none⟩, ⟨(some 19), (.mov (.t 8)), none⟩, ⟨(some 20), (.len .sl (.t 19)), none⟩, ⟨(some 21), (.bin .lss (.t 18) (.t 20)), none⟩]) (.cond (.t 21) .skip (.exit 0))) (.seq (.block 1 (.seq (.ops [⟨(some 24), (.mov (.t 8)), none⟩, ⟨(some 25), (.mov (.t 10)), none⟩, ⟨(some 26), (.iaddr none 7 (.t 24) (.t 25)), none⟩, ⟨(some 27), (.faddr 0 (.t 26)), none⟩, ⟨(some 28), (.load none (.t 27)), none⟩, ⟨(some 29), (.mov (.t 2)), none⟩, ⟨(some 30), (.bin .eql (.t 28) (.t 29)), none⟩]) (.cond (.t 30) (.seq (.ops [⟨(some 31), (.mov (.t 8)), none⟩, ⟨(some 32), (.mov (.t 10)), none⟩, ⟨(some 33), (.iaddr none 7 (.t 31) (.t 32)), none⟩, ⟨(some 34), (.faddr 6 (.t 33)), none⟩, ⟨(some 35), (.load none (.t 34)), none⟩, ⟨(some 6), (.mov (.t 35)), none⟩, ⟨(some 7), (.mov (.v (.bool true))), none⟩]) .ret) .skip))) (.ops [⟨(some 22), (.mov (.t 10)), none⟩, ⟨(some 23), (.bin .add (.t 22) (.v (.int .i64 1))), none⟩, ⟨(some 10), (.mov (.t 23)), none⟩])))))) (.seq (.seq (.ops [⟨(some 11), (.mov (.v (.int .i64 0))), none⟩]) (.block 2 (.loop (.seq (.seq (.ops [⟨(some 36), (.mov (.t 11)), none⟩, ⟨(some 37), (.mov (.t 9)), none⟩, ⟨(some 38), (.len .sl (.t 37)), none⟩, ⟨(some 39), (.bin .lss (.t 36) (.t 38)), none⟩]) (.cond (.t 39) .skip (.exit 2))) (.seq (.block 3 (.seq (.ops [⟨(some 42), (.mov (.t 9)), none⟩, ⟨(some 43), (.mov (.t 11)), none⟩, ⟨(some 44), (.iaddr none 3 (.t 42) (.t 43)), none⟩, ⟨(some 45), (.faddr 0 (.t 44)), none⟩, ⟨(some 46), (.load none (.t 45)), none⟩, ⟨(some 47), (.mov (.t 2)), none⟩, ⟨(some 48), (.bin .eql (.t 46) (.t 47)), none⟩]) (.cond (.t 48) (.seq (.ops [⟨(some 49), (.mov (.t 9)), none⟩, ⟨(some 50), (.mov (.t 11)), none⟩, ⟨(some 51), (.iaddr none 3 (.t 49) (.t 50)), none⟩, ⟨(some 52), (.faddr 2 (.t 51)), none⟩, ⟨(some 53), (.load none (.t 52)), none⟩, ⟨(some 6), (.mov (.t 53)), none⟩, ⟨(some 7), (.mov (.v (.bool true))), none⟩]) .ret) .skip))) (.ops [⟨(some 40), (.mov (.t 11)), none⟩, ⟨(some 41), (.bin .add (.t 40) (.v (.int .i64 1))), none⟩, ⟨(some 11), (.mov (.t 41)), none⟩])))))) (.seq (.ops [⟨(some 6), (.mov (.v (.str []))), none⟩, ⟨(some 7), (.mov (.v (.bool false))), none⟩]) .ret))))), 54, [(.tmp 6), (.tmp 7)]⟩
theorem c27_ok : compileF Tryz.prog [] 27 = some c27 := by kernel_rfl
def c5 : AFn := ⟨(.seq (.ops [⟨(some 2), (.mov (.v (.bool false))), none⟩]) (.seq (.ops [⟨(some 6), (.mov (.t 0)), none⟩, ⟨(some 7), (.build [.nils, (.int .i64 0)] [(0, (1, (.t 6)))]), none⟩, ⟨(some 8), (.box 25 (.t 7)), none⟩, ⟨(some 3), (.mov (.t 8)), none⟩]) (.seq (.ops [⟨(some 9), (.mov (.t 3)), none⟩, ⟨(some 10), (.call (.v (.fn (.func 10) [] [])) [(.t 9), (.v (.int .i64 9))]), none⟩, ⟨(some 4), (.alloc 28 [.nils]), none⟩, ⟨none, (.store (some 1) (.t 4) (.t 10)), none⟩]) (.seq (.ops [⟨(some 11), (.mov (.t 3)), none⟩, ⟨(some 12), (.load (some 1) (.t 4)), none⟩, ⟨(some 13), (.call (.v (.fn (.func 11) [] [])) [(.t 11), (.t 12)]), none⟩, ⟨(some 5), (.mov (.t 13)), none⟩]) (.seq (.draw [⟨(some 14), (.load (some 1) (.t 4)), none⟩, ⟨(some 15), (.mov (.t 5)), none⟩, ⟨(some 16), (.call (.v (.fn (.func 23) [] [])) [(.t 14), (.t 15)]), none⟩, ⟨(some 17), (.load (some 1) (.t 4)), none⟩, ⟨(some 18), (.mov (.t 5)), none⟩, ⟨(some 19), (.call (.v (.fn (.func 24) [] [])) [(.t 17), (.t 18)]), none⟩, ⟨(some 20), (.call (.v (.fn (.func 22) [] [])) [(.t 16), (.t 19)]), none⟩, ⟨(some 21), (.mov (.t 20)), none⟩, ⟨(some 22), (.call (.v (.fn (.func 18) [] [])) []), (some (21, true))⟩, ⟨(some 23), (.pick (.t 21) (.t 22) (.v (.bool false))), none⟩, ⟨(some 2), (.mov (.t 23)), none⟩] [0, 0, 3, 0, 0, 31, 63, 127, 255, 511, 1023]) .ret))))), 24, [(.tmp 2)]⟩
theorem c5_ok : compileF Tryz.prog [] 5 = some c5 := by kernel_rfl
def c6 : AFn := ⟨(.seq (.ops [⟨(some 4), (.mov (.v (.bool false))), none⟩]) (.seq (.ops [⟨(some 14), (.mov (.t 0)), none⟩, ⟨(some 15), (.build [.nils, (.int .i64 0)] [(0, (1, (.t 14)))]), none⟩, ⟨(some 16), (.box 25 (.t 15)), none⟩, ⟨(some 5), (.mov (.t 16)), none⟩]) (.seq (.ops [⟨(some 17), (.mov (.t 5)), none⟩, ⟨(some 18), (.call (.v (.fn (.func 10) [] [])) [(.t 17), (.v (.int .i64 9))]), none⟩, ⟨(some 6), (.alloc 28 [.nils]), none⟩, ⟨none, (.store (some 1) (.t 6) (.t 18)), none⟩]) (.seq (.ops [⟨(some 19), (.mov (.t 5)), none⟩, ⟨(some 20), (.load (some 1) (.t 6)), none⟩, ⟨(some 21), (.call (.v (.fn (.func 11) [] [])) [(.t 19), (.t 20)]), none⟩, ⟨(some 7), (.mov (.t 21)), none⟩]) (.seq (.ops [⟨(some 22), (.mov (.t 1)), none⟩, ⟨(some 23), (.mov (.t 5)), none⟩, ⟨(some 24), (.bslice 9 1 false [(.v (.str [115, 100, 97])), (.v (.str [115, 100, 98])), (.v (.str [99, 47, 100, 48]))]), none⟩, ⟨(some 25), (.call (.v (.fn (.func 25) [] [])) [(.t 23), (.t 24)]), none⟩, ⟨(some 26), (.mov (.t 5)), none⟩, ⟨(some 27), (.bslice 9 1 false [(.v (.str [100, 105, 115, 107, 47, 97])), (.v (.str [100, 105, 115, 107])), (.v (.str [99, 100])), (.v (.str [116, 116, 121, 48]))]), none⟩, ⟨(some 28), (.call (.v (.fn (.func 25) [] [])) [(.t 26), (.t 27)]), none⟩, ⟨(some 29), (.bslice 9 1 false [(.t 22), (.t 25), (.t 28)]), none⟩, ⟨(some 8), (.mov (.t 29)), none⟩]) (.seq (.seq (.ops [⟨(some 9), (.mov (.v (.int .i64 0))), none⟩]) (.block 0 (.loop (.seq (.seq (.ops [⟨(some 30), (.mov (.t 9)), none⟩, ⟨(some 31), (.mov (.t 8)), none⟩, ⟨(some 32), (.len .sl (.t 31)), none⟩, ⟨(some 33), (.bin .lss (.t 30) (.t 32)), none⟩]) (.cond (.t 33) .skip (.exit 0))) (.seq (.block 1 (.seq (.draw [⟨(some 37), (.load (some 1) (.t 6)), none⟩, ⟨(some 38), (.mov (.t 7)), none⟩, ⟨(some 39), (.mov (.t 8)), none⟩, ⟨(some 40), (.mov (.t 9)), none⟩, ⟨(some 41), (.iaddr none 1 (.t 39) (.t 40)), none⟩, ⟨(some 42), (.load none (.t 41)), none⟩, ⟨(some 43), (.call (.v (.fn (.func 26) [] [])) [(.t 37), (.t 38), (.t 42)]), none⟩, ⟨(some 36), (.mov (.t 43)), none⟩, ⟨(some 44), (.extract (.t 36) 0), none⟩, ⟨(some 45), (.extract (.t 36) 1), none⟩, ⟨(some 10), (.mov (.t 44)), none⟩, ⟨(some 11), (.mov (.t 45)), none⟩] [0, 0, 0, 0, 12, 28, 63, 127, 255, 255, 511, 2047]) (.seq (.draw [⟨(some 47), (.load (some 1) (.t 6)), none⟩, ⟨(some 48), (.mov (.t 7)), none⟩, ⟨(some 49), (.mov (.t 8)), none⟩, ⟨(some 50), (.mov (.t 9)), none⟩, ⟨(some 51), (.iaddr none 1 (.t 49) (.t 50)), none⟩, ⟨(some 52), (.load none (.t 51)), none⟩, ⟨(some 53), (.call (.v (.fn (.func 27) [] [])) [(.t 47), (.t 48), (.t 52)]), none⟩, ⟨(some 46), (.mov (.t 53)), none⟩, ⟨(some 54), (.extract (.t 46) 0), none⟩, ⟨(some 55), (.extract (.t 46) 1), none⟩, ⟨(some 12), (.mov (.t 54)), none⟩, ⟨(some 13), (.mov (.t 55)), none⟩] [0, 0, 0, 0, 12, 28, 63, 127, 255, 255, 511, 2047]) (.seq (.ops [⟨(some 56), (.mov (.t 10)), none⟩, ⟨(some 57), (.mov (.t 12)), none⟩, ⟨(some 58), (.bin .neq (.t 56) (.t 57)), none⟩, ⟨(some 59), (.mov (.t 58)), none⟩, ⟨(some 60), (.mov (.t 11)), (some (59, false))⟩, ⟨(some 61), (.mov (.t 13)), (some (59, false))⟩, ⟨(some 62), (.binb true (.t 60) (.t 61)), (some (59, false))⟩, ⟨(some 63), (.pick (.t 59) (.v (.bool true)) (.t 62)), none⟩]) (.cond (.t 63) (.seq (.ops [⟨(some 4), (.mov (.v (.bool false))), none⟩]) .ret) .skip))))) (.ops [⟨(some 34), (.mov (.t 9)), none⟩, ⟨(some 35), (.bin .add (.t 34) (.v (.int .i64 1))), none⟩, ⟨(some 9), (.mov (.t 35)), none⟩])))))) (.seq (.ops [⟨(some 64), (.call (.v (.fn (.func 18) [] [])) []), none⟩, ⟨(some 4), (.mov (.t 64)), none⟩]) .ret))))))), 65, [(.tmp 4)]⟩
theorem c6_ok : compileF Tryz.prog [] 6 = some c6 := by kernel_rfl
def c7 : AFn := ⟨(.seq (.ops [⟨(some 4), (.mov (.v (.bool false))), none⟩]) (.seq (.ops [⟨(some 10), (.mov (.t 0)), none⟩, ⟨(some 11), (.build [.nils, (.int .i64 0)] [(0, (1, (.t 10)))]), none⟩, ⟨(some 12), (.box 25 (.t 11)), none⟩, ⟨(some 5), (.mov (.t 12)), none⟩]) (.seq (.ops [⟨(some 13), (.mov (.t 5)), none⟩, ⟨(some 14), (.call (.v (.fn (.func 10) [] [])) [(.t 13), (.v (.int .i64 9))]), none⟩, ⟨(some 6), (.alloc 28 [.nils]), none⟩, ⟨none, (.store (some 1) (.t 6) (.t 14)), none⟩]) (.seq (.ops [⟨(some 15), (.mov (.t 5)), none⟩, ⟨(some 16), (.load (some 1) (.t 6)), none⟩, ⟨(some 17), (.call (.v (.fn (.func 11) [] [])) [(.t 15), (.t 16)]), none⟩, ⟨(some 7), (.mov (.t 17)), none⟩]) (.seq (.ops [⟨(some 18), (.mov (.t 1)), none⟩, ⟨(some 19), (.mov (.t 7)), none⟩, ⟨(some 20), (.len .sl (.t 19)), none⟩, ⟨(some 21), (.bin .add (.t 20) (.v (.int .i64 1))), none⟩, ⟨(some 22), (.call (.v (.fn (.func 28) [] [])) [(.t 18), (.t 21)]), none⟩, ⟨(some 8), (.mov (.t 22)), none⟩]) (.seq (.draw [⟨(some 23), (.mov (.t 7)), none⟩, ⟨(some 24), (.mov (.t 8)), none⟩, ⟨(some 25), (.slice .sl 12 (.t 23) (some (.t 24)) none), none⟩, ⟨(some 26), (.append 65 12 208 (.v .nils) (.t 25)), none⟩, ⟨(some 27), (.mov (.t 7)), none⟩, ⟨(some 28), (.mov (.t 8)), none⟩, ⟨(some 29), (.slice .sl 12 (.t 27) none (some (.t 28))), none⟩, ⟨(some 30), (.append 65 12 208 (.t 26) (.t 29)), none⟩, ⟨(some 9), (.mov (.t 30)), none⟩] [0, 0, 3, 7, 0, 0, 48, 127, 255]) (.seq (.draw [⟨(some 31), (.load (some 1) (.t 6)), none⟩, ⟨(some 32), (.mov (.t 7)), none⟩, ⟨(some 33), (.call (.v (.fn (.func 13) [] [])) [(.t 31), (.t 32)]), none⟩, ⟨(some 34), (.load (some 1) (.t 6)), none⟩, ⟨(some 35), (.mov (.t 9)), none⟩, ⟨(some 36), (.call (.v (.fn (.func 13) [] [])) [(.t 34), (.t 35)]), none⟩, ⟨(some 37), (.call (.v (.fn (.func 12) [] [])) [(.t 33), (.t 36)]), none⟩, ⟨(some 38), (.mov (.t 37)), none⟩, ⟨(some 39), (.load (some 1) (.t 6)), (some (38, true))⟩, ⟨(some 40), (.mov (.t 7)), (some (38, true))⟩, ⟨(some 41), (.call (.v (.fn (.func 16) [] [])) [(.t 39), (.t 40)]), (some (38, true))⟩, ⟨(some 42), (.load (some 1) (.t 6)), (some (38, true))⟩, ⟨(some 43), (.mov (.t 9)), (some (38, true))⟩, ⟨(some 44), (.call (.v (.fn (.func 16) [] [])) [(.t 42), (.t 43)]), (some (38, true))⟩, ⟨(some 45), (.call (.v (.fn (.func 15) [] [])) [(.t 41), (.t 44)]), (some (38, true))⟩, ⟨(some 46), (.pick (.t 38) (.t 45) (.v (.bool false))), none⟩, ⟨(some 47), (.mov (.t 46)), none⟩, ⟨(some 48), (.load (some 1) (.t 6)), (some (47, true))⟩, ⟨(some 49), (.mov (.t 7)), (some (47, true))⟩, ⟨(some 50), (.call (.v (.fn (.func 23) [] [])) [(.t 48), (.t 49)]), (some (47, true))⟩, ⟨(some 51), (.load (some 1) (.t 6)), (some (47, true))⟩, ⟨(some 52), (.mov (.t 9)), (some (47, true))⟩, ⟨(some 53), (.call (.v (.fn (.func 23) [] [])) [(.t 51), (.t 52)]), (some (47, true))⟩, ⟨(some 54), (.call (.v (.fn (.func 22) [] [])) [(.t 50), (.t 53)]), (some (47, true))⟩, ⟨(some 55), (.pick (.t 47) (.t 54) (.v (.bool false))), none⟩, ⟨(some 56), (.mov (.t 55)), none⟩, ⟨(some 57), (.call (.v (.fn (.func 18) [] [])) []), (some (56, true))⟩, ⟨(some 58), (.pick (.t 56) (.t 57) (.v (.bool false))), none⟩, ⟨(some 4), (.mov (.t 58)), none⟩] [0, 0, 3, 0, 0, 31, 63, 127, 255, 255, 1023, 255, 255, 8191, 16383, 32767, 65535, 131071, 131071, 524287, 131071, 131071, 4194303, 8388607, 16777215, 33554431, 67108863, 134217727, 268435455]) .ret))))))), 59, [(.tmp 4)]⟩
theorem c7_ok : compileF Tryz.prog [] 7 = some c7 := by kernel_rfl
def c4 : AFn := ⟨(.seq (.ops [⟨(some 4), (.mov (.v (.bool false))), none⟩]) (.seq (.seq (.ops [⟨(some 8), (.mov (.t 0)), none⟩, ⟨(some 9), (.len .sl (.t 8)), none⟩, ⟨(some 10), (.bin .gtr (.t 9) (.v (.int .i64 100))), none⟩]) (.cond (.t 10) (.seq (.ops [⟨(some 11), (.call (.v (.fn (.func 18) [] [])) []), none⟩, ⟨(some 4), (.mov (.t 11)), none⟩]) .ret) .skip)) (.seq (.ops [⟨(some 12), (.mov (.t 1)), none⟩, ⟨(some 13), (.build [.nils, (.int .i64 0)] [(0, (1, (.t 12)))]), none⟩, ⟨(some 14), (.box 25 (.t 13)), none⟩, ⟨(some 5), (.mov (.t 14)), none⟩]) (.seq (.ops [⟨(some 15), (.mov (.t 5)), none⟩, ⟨(some 16), (.call (.v (.fn (.func 10) [] [])) [(.t 15), (.v (.int .i64 9))]), none⟩, ⟨(some 6), (.alloc 28 [.nils]), none⟩, ⟨none, (.store (some 1) (.t 6) (.t 16)), none⟩]) (.seq (.draw [⟨(some 17), (.load (some 1) (.t 6)), none⟩, ⟨(some 18), (.mov (.t 5)), none⟩, ⟨(some 19), (.load (some 1) (.t 6)), none⟩, ⟨(some 20), (.call (.v (.fn (.func 11) [] [])) [(.t 18), (.t 19)]), none⟩, ⟨(some 21), (.call (.v (.fn (.func 14) [] [])) [(.t 17), (.t 20)]), none⟩, ⟨(some 7), (.mov (.t 21)), none⟩] [0, 0, 0, 6, 15, 31]) (.seq (.ops [⟨(some 22), (.mov (.t 0)), none⟩, ⟨(some 23), (.call (.v (.fn (.func 20) [] [])) [(.t 22)]), none⟩, ⟨(some 24), (.mov (.t 0)), none⟩, ⟨(some 25), (.call (.v (.fn (.func 21) [] [])) [(.t 24)]), none⟩, ⟨(some 26), (.call (.v (.fn (.func 19) [] [])) [(.t 23), (.t 25)]), none⟩, ⟨(some 27), (.mov (.t 26)), none⟩, ⟨(some 28), (.mov (.t 7)), (some (27, true))⟩, ⟨(some 29), (.call (.v (.fn (.func 20) [] [])) [(.t 28)]), (some (27, true))⟩, ⟨(some 30), (.mov (.t 7)), (some (27, true))⟩, ⟨(some 31), (.call (.v (.fn (.func 21) [] [])) [(.t 30)]), (some (27, true))⟩, ⟨(some 32), (.call (.v (.fn (.func 19) [] [])) [(.t 29), (.t 31)]), (some (27, true))⟩, ⟨(some 33), (.pick (.t 27) (.t 32) (.v (.bool false))), none⟩, ⟨(some 34), (.mov (.t 33)), none⟩, ⟨(some 35), (.call (.v (.fn (.func 18) [] [])) []), (some (34, true))⟩, ⟨(some 36), (.pick (.t 34) (.t 35) (.v (.bool false))), none⟩, ⟨(some 4), (.mov (.t 36)), none⟩]) .ret)))))), 37, [(.tmp 4)]⟩
theorem c4_ok : compileF Tryz.prog [] 4 = some c4 := by kernel_rfl
end Go.Ab
namespace Go.Ab
open Go Go.Proofs Go.Sort
set_option maxRecDepth 20000
theorem rNames_c (l : List Nd) (hl : l.length ≤ 1000) : ACalls Tryz.prog 21 [.imm (l.map ndRow)] [] (.imm ((nmN l).map sRow)) [] := by
  have hnl := fun k (l : List Nd) => ndRows_cl k l
  refine acalls_F c21_ok rfl ?_
  unfold c21 nmN
  simp +decide -dsimp -implicitDefEqProofs [go_sem]
  refine loop_of (S := Nat) (fun i => ⟨tmps 19 [(0, .imm (l.map ndRow)), (3, .imm ((setT ((l.map (·.name)).take i)).map sRow)), (4, .int .i64 i)], []⟩) (fun i => l.length - i) (fun i => i ≤ l.length) 0 (by simp) ((Wk.nilI 3 rfl).trans (cut_of (by simp) ?_)) ?_
  · simp +decide -dsimp -implicitDefEqProofs [go_sem, hnl, show setT [] = [] from rfl]
  intro i hi
  by_cases h : i < l.length
  · have wi : IntKind.i64.wrap ((i : Int) + 1) = i + 1 := w64 (by omega) (by omega)
    have hle : (setT ((l.map (·.name)).take i)).length ≤ 100000 := Nat.le_trans (setT_len _) (by rw [List.length_take]; omega)
    have cp := put_c (setT ((l.map (·.name)).take i)) l[i].name hle
    have hs : setT ((l.map (·.name)).take (i + 1)) = putS (setT ((l.map (·.name)).take i)) l[i].name := by
      have := setT_take (l := l.map (·.name)) (i := i) (by simpa using h)
      simpa using this
    simp +decide -dsimp -implicitDefEqProofs [go_sem, h, ndRow_eq]
    refine callE_pure cp (by simp +decide -dsimp -implicitDefEqProofs [go_sem]) (by simp +decide -dsimp -implicitDefEqProofs [go_sem]) ?_
    simp +decide -dsimp -implicitDefEqProofs [go_sem, wi]
    refine next_of (i + 1) (by show i + 1 ≤ l.length; omega) (by show l.length - (i + 1) < l.length - i; omega) (cut_of (by simp) ?_)
    rw [hs]
    simp +decide -dsimp -implicitDefEqProofs [go_sem, hnl]
  · have e : i = l.length := by omega
    subst e
    rw [List.take_of_length_le (by simp)]
    simp +decide -dsimp -implicitDefEqProofs [go_sem]
section
variable {T : List Dvc} {rs : List Rcd}
theorem Nok.rres (h : Nok T rs) : ACalls Tryz.prog 49 [.imm ((nmN (mkN T rs)).map sRow), .imm ((mkC T rs).map clRow)] [] (.imm ((lnkN T rs).map lkRow)) [] :=
  rResolve_c _ _ (by have := nmN_len (mkN T rs); have := h.nl; omega) (by have := h.cn; omega) (fun x hx => by
    obtain ⟨n, hn, rfl⟩ := nmN_mem.1 hx
    have := mkN_name h n hn; omega) (fun c hc => by have := lk_len _ (mkC_u h.r c hc); omega) h.okc.1
theorem rLinks_c (h : Nok T rs) : ACalls Tryz.prog 24 [.agg [.imm (T.map dcRow)], .imm (rs.map rcRow)] [] (.imm ((lnkN T rs).map lkRow)) [] := by
  have hcl := fun k (T : List Dvc) => dcRows_cl k T
  have hrl := fun k (l : List Rcd) => rcRows_cl k l
  have hnl := fun k (l : List Nd) => ndRows_cl k l
  have hcc := closedLL_clRows
  have hlc := closedLL_lkRows
  have c1 := h.rmk
  have c2 := rNames_c (mkN T rs) (by have := h.nl; omega)
  have c3 := h.rcl
  have c4 := h.rres
  refine acalls_F c24_ok rfl ?_
  unfold c24
  simp +decide -dsimp -implicitDefEqProofs [go_sem]
  refine callDE_pure c1 (by simp +decide -dsimp -implicitDefEqProofs [go_sem, hcl, hrl]) (by simp +decide -dsimp -implicitDefEqProofs [go_sem, hnl]) ?_
  simp +decide -dsimp -implicitDefEqProofs [go_sem]
  refine callDE_pure c2 (by simp +decide -dsimp -implicitDefEqProofs [go_sem, hnl]) (by simp +decide -dsimp -implicitDefEqProofs [go_sem]) ?_
  simp +decide -dsimp -implicitDefEqProofs [go_sem]
  refine callDE_pure c3 (by simp +decide -dsimp -implicitDefEqProofs [go_sem, hcl, hrl]) (by simp +decide -dsimp -implicitDefEqProofs [go_sem, hcc]) ?_
  simp +decide -dsimp -implicitDefEqProofs [go_sem]
  refine callDE_pure c4 (by simp +decide -dsimp -implicitDefEqProofs [go_sem, hcc]) (by simp +decide -dsimp -implicitDefEqProofs [go_sem, hlc]) ?_
  simp +decide -dsimp -implicitDefEqProofs [go_sem, hlc]
end
end Go.Ab
namespace Go.Ab
open Go Go.Proofs Go.Sort
set_option maxRecDepth 20000
section
variable {T : List Dvc} {rs : List Rcd}
set_option maxHeartbeats 8000000 in
theorem rOwner_c (h : Nok T rs) (s : Txt) : ACalls Tryz.prog 27 [.agg [.imm (T.map dcRow)], .imm (rs.map rcRow), .str s] [] (ownR (mkN T rs) (lnkN T rs) s) [] := by
  have hcl := fun k (T : List Dvc) => dcRows_cl k T
  have hrl := fun k (l : List Rcd) => rcRows_cl k l
  have hnl := fun k (l : List Nd) => ndRows_cl k l
  have hlc := closedLL_lkRows
  have c1 := h.rmk
  have c2 := rLinks_c h
  have l1 := h.nl
  have l2 := h.len
  generalize mkN T rs = N at c1 l1
  generalize lnkN T rs = L at c2 l2
  refine acalls_A c27_ok rfl ?_
  unfold c27
  refine awp_cut ⟨tmps 54 [(1, .imm (rs.map rcRow)), (2, .str s), (3, .ptr 0 0)], [.box 28 [.imm (T.map dcRow)]]⟩ (awp_of ?_) ?_
  · simp +decide -dsimp -implicitDefEqProofs [go_sem]
    refine cut_of (by simp) ?_
    simp +decide -dsimp -implicitDefEqProofs [go_sem, hcl, hrl]
  refine awp_cut ⟨tmps 54 [(2, .str s), (8, .imm (N.map ndRow)), (9, .imm (L.map lkRow))], []⟩ (awp_of ?_) ?_
  · simp +decide -dsimp -implicitDefEqProofs [go_sem]
    refine callDE_pure c1 (by simp +decide -dsimp -implicitDefEqProofs [go_sem, hcl, hrl]) (by simp +decide -dsimp -implicitDefEqProofs [go_sem, hnl]) ?_
    simp +decide -dsimp -implicitDefEqProofs [go_sem]
    refine callDE_pure c2 (by simp +decide -dsimp -implicitDefEqProofs [go_sem, hcl, hrl]) (by simp +decide -dsimp -implicitDefEqProofs [go_sem, hlc]) ?_
    simp +decide -dsimp -implicitDefEqProofs [go_sem]
    refine cut_of (by simp) ?_
    simp +decide -dsimp -implicitDefEqProofs [go_sem, hnl, hlc]
  cases hf : N.find? (fun n => decide (n.name = s)) with
  | some n =>
    have hR : ownR N L s = .tup [.str n.path, .bool true] := by unfold ownR ownF; rw [hf]
    rw [hR]
    obtain ⟨hp, i0, hi0, hn0, hlt⟩ := List.find?_eq_some_iff_getElem.1 hf
    refine awp_of ?_
    simp +decide -dsimp -implicitDefEqProofs [go_sem]
    refine loop_of (S := Nat) (fun i => ⟨tmps 54 [(2, .str s), (8, .imm (N.map ndRow)), (9, .imm (L.map lkRow)), (10, .int .i64 i)], []⟩) (fun i => N.length - i) (fun i => i ≤ i0) 0 (by simp) (cut_of (by simp) ?_) ?_
    · simp +decide -dsimp -implicitDefEqProofs [go_sem, hlc, hnl]
    intro i hi
    have h1 : i < N.length := by omega
    have wi : IntKind.i64.wrap ((i : Int) + 1) = i + 1 := w64 (by omega) (by omega)
    by_cases he : i = i0
    · subst he
      have hnm : N[i].name = s := by rw [hn0]; simpa using hp
      simp +decide -dsimp -implicitDefEqProofs [go_sem, h1, ndRow_eq, hnm]
      rw [hn0]
    · have hnm : ¬ N[i].name = s := by have := hlt i (by omega); simpa using this
      simp +decide -dsimp -implicitDefEqProofs [go_sem, h1, ndRow_eq, hnm, wi]
      refine next_of (i + 1) (by show i + 1 ≤ i0; omega) (by show N.length - (i + 1) < N.length - i; omega) (cut_of (by simp) ?_)
      simp +decide -dsimp -implicitDefEqProofs [go_sem, hlc, hnl]
  | none =>
    have hno : ∀ n ∈ N, ¬ n.name = s := fun n hn => by simpa using List.find?_eq_none.1 hf n hn
    refine awp_cut ⟨tmps 54 [(2, .str s), (9, .imm (L.map lkRow))], []⟩ (awp_of ?_) ?_
    · simp +decide -dsimp -implicitDefEqProofs [go_sem]
      refine loop_of (S := Nat) (fun i => ⟨tmps 54 [(2, .str s), (8, .imm (N.map ndRow)), (9, .imm (L.map lkRow)), (10, .int .i64 i)], []⟩) (fun i => N.length - i) (fun i => i ≤ N.length) 0 (by simp) (cut_of (by simp) ?_) ?_
      · simp +decide -dsimp -implicitDefEqProofs [go_sem, hlc, hnl]
      intro i hi
      by_cases h1 : i < N.length
      · have wi : IntKind.i64.wrap ((i : Int) + 1) = i + 1 := w64 (by omega) (by omega)
        have hnm := hno _ (List.getElem_mem h1)
        simp +decide -dsimp -implicitDefEqProofs [go_sem, h1, ndRow_eq, hnm, wi]
        refine next_of (i + 1) (by show i + 1 ≤ N.length; omega) (by show N.length - (i + 1) < N.length - i; omega) (cut_of (by simp) ?_)
        simp +decide -dsimp -implicitDefEqProofs [go_sem, hlc, hnl]
      · have e : i = N.length := by omega
        subst e
        simp +decide -dsimp -implicitDefEqProofs [go_sem]
        refine cut_of (by simp) ?_
        simp +decide -dsimp -implicitDefEqProofs [go_sem, hlc]
    refine awp_of ?_
    simp +decide -dsimp -implicitDefEqProofs [go_sem]
    cases hf2 : L.find? (fun x => decide (x.name = s)) with
    | some n =>
      have hR : ownR N L s = .tup [.str n.path, .bool true] := by unfold ownR ownF; rw [hf, hf2]; rfl
      rw [hR]
      obtain ⟨hp, i0, hi0, hn0, hlt⟩ := List.find?_eq_some_iff_getElem.1 hf2
      refine loop_of (S := Nat) (fun i => ⟨tmps 54 [(2, .str s), (9, .imm (L.map lkRow)), (11, .int .i64 i)], []⟩) (fun i => L.length - i) (fun i => i ≤ i0) 0 (by simp) (cut_of (by simp) ?_) ?_
      · simp +decide -dsimp -implicitDefEqProofs [go_sem, hlc]
      intro i hi
      have h1 : i < L.length := by omega
      have wi : IntKind.i64.wrap ((i : Int) + 1) = i + 1 := w64 (by omega) (by omega)
      by_cases he : i = i0
      · subst he
        have hnm : L[i].name = s := by rw [hn0]; simpa using hp
        simp +decide -dsimp -implicitDefEqProofs [go_sem, h1, lkRow_eq, hnm]
        rw [hn0]
      · have hnm : ¬ L[i].name = s := by have := hlt i (by omega); simpa using this
        simp +decide -dsimp -implicitDefEqProofs [go_sem, h1, lkRow_eq, hnm, wi]
        refine next_of (i + 1) (by show i + 1 ≤ i0; omega) (by show L.length - (i + 1) < L.length - i; omega) (cut_of (by simp) ?_)
        simp +decide -dsimp -implicitDefEqProofs [go_sem, hlc]
    | none =>
      have hR : ownR N L s = .tup [.str [], .bool false] := by unfold ownR ownF; rw [hf, hf2]; rfl
      rw [hR]
      have hno2 : ∀ n ∈ L, ¬ n.name = s := fun n hn => by simpa using List.find?_eq_none.1 hf2 n hn
      refine loop_of (S := Nat) (fun i => ⟨tmps 54 [(2, .str s), (9, .imm (L.map lkRow)), (11, .int .i64 i)], []⟩) (fun i => L.length - i) (fun i => i ≤ L.length) 0 (by simp) (cut_of (by simp) ?_) ?_
      · simp +decide -dsimp -implicitDefEqProofs [go_sem, hlc]
      intro i hi
      by_cases h1 : i < L.length
      · have wi : IntKind.i64.wrap ((i : Int) + 1) = i + 1 := w64 (by omega) (by omega)
        have hnm := hno2 _ (List.getElem_mem h1)
        simp +decide -dsimp -implicitDefEqProofs [go_sem, h1, lkRow_eq, hnm, wi]
        refine next_of (i + 1) (by show i + 1 ≤ L.length; omega) (by show L.length - (i + 1) < L.length - i; omega) (cut_of (by simp) ?_)
        simp +decide -dsimp -implicitDefEqProofs [go_sem, hlc]
      · have e : i = L.length := by omega
        subst e
        simp +decide -dsimp -implicitDefEqProofs [go_sem]
end
end Go.Ab
