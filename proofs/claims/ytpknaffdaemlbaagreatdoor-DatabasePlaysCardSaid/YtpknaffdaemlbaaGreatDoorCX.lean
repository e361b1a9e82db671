/- A layer of abstract values over the model, and what is proved with it: part CX. -/
import Derived.Test.YtpknaffdaemlbaaGreatDoorOX
import Derived.Test.YtpknaffdaemlbaaGreatDoorC1
namespace Go.Ab
open Go Go.Proofs
def c12:AFn:=⟨(sq [(ox 0 (.mov (.v .nilp)))] (sq [(ox 1 .mkmap),(ox 2 .mkmap),(ox 3 (.build [.nilm,.nilm,.nils] [(0,(1,(t 1))),(1,(1,(t 2)))])),(x4 4 83 3),(mv 0 4)] .ret)),5,[(.tmp 0)]⟩
theorem c12_ok:QAE Tryz.prog [] 12 = some c12:=by kernel_rfl
def c14:AFn:=⟨(.ops [(mv 2 0),(mv 3 0),(mv 4 0),(x3 5 4),(z1 6 1 5),(z2 7 6),(y7 8 43 7),(x3 9 2),(z1 10 0 9),(y6 10 8),(x3 11 3),(z1 12 2 11),(on (.store none (t 12) (.v .nils)))]),13,[]⟩
theorem c14_ok:QAE Tryz.prog [] 14 = some c14:=by kernel_rfl
def c16:AFn:=⟨(sq [(z3 4 0)] (sq [(mv 10 1),(y7 11 31 10),(mv 9 11),(z7 12 9 0),(z7 13 9 1),(mv 5 12),(mv 6 13)] (.seq (sq [(mv 15 0),(x3 16 15),(z1 17 1 16),(z2 18 17),(mv 19 5),(ox 20 (.lookup .str (.str []) true (t 18) (t 19))),(mv 14 20),(z7 21 14 0),(z7 22 14 1),(mv 7 21),(mv 8 22)] (sq [(mv 23 6),(z8 24 .neq 23 0),(mv 25 24),(z5 26 8 25),(of 27 (.un .not (t 26)) 25),(y4 28 25 27)] (cd 28 (sq [(z3 4 262)] .ret) .skip))) (sq [(mv 29 0),(mv 30 5),(ox 31 (.build [(.str []),(.str [])] [(0,(1,(t 30)))])),(ox 32 (.mkfn (.func 46) [(t 31)] [])),(y8 33 45 29 32),(mv 4 33)] .ret)))),34,[(.tmp 4)]⟩
theorem c16_ok:QAE Tryz.prog [] 16 = some c16:=by kernel_rfl
def c18:AFn:=⟨(sq [(x4 3 34 1),(z3 4 0)] (sq [(y1 12 12 3),(y7 13 30 12),(mv 11 13),(z7 14 11 0),(z7 15 11 1),(mv 5 14),(mv 6 15)] (.seq (sq [(mv 16 6),(z8 17 .neq 16 0)] (cd 17 (sq [(z3 4 260)] .ret) .skip)) (sq [(z1 19 0 3),(z2 20 19),(y7 21 31 20),(mv 18 21),(z7 22 18 0),(z7 23 18 1),(mv 7 22),(mv 8 23)] (.seq (sq [(mv 25 0),(x3 26 25),(z1 27 1 26),(z2 28 27),(mv 29 7),(ox 30 (.lookup .str (.str []) true (t 28) (t 29))),(mv 24 30),(z7 31 24 0),(z7 32 24 1),(mv 9 31),(mv 10 32)] (sq [(mv 33 10),(x5 34 33),(mv 35 34),(z4 36 0 35),(ot 37 (.nilchk (t 36)) 35),(x1 38 1 37 35),(x2 39 38 35),(ot 40 (.len .mp (t 39)) 35),(ot 41 (b1 .geq 40 512) 35),(y3 42 35 41)] (cd 42 (sq [(z3 4 261)] .ret) .skip))) (sq [(mv 43 0),(mv 44 7),(mv 45 5),(ox 46 (.build [(.str []),(.str [])] [(0,(1,(t 44))),(1,(1,(t 45)))])),(ox 47 (.mkfn (.func 48) [(t 46)] [])),(y8 48 45 43 47),(mv 4 48)] .ret)))))),49,[(.tmp 4)]⟩
theorem c18_ok:QAE Tryz.prog [] 18 = some c18:=by kernel_rfl
def c19:AFn:=⟨(.seq (.seq (.draw [(mv 6 0),(x3 7 6),(z1 8 2 7),(z2 9 8),(mv 10 1),(ox 11 (.ext .most [(t 10),(iv 0)])),(mv 12 0),(x3 13 12),(z1 14 2 13),(z2 15 14),(y9 16 15),(ox 17 (.ext .least [(t 11),(t 16)])),(ox 18 (.slice .sl 1 (t 9) none (some (t 17)))),(y9 19 18),(z3 20 0)] [0,1,3,7,0,16,0,64,192,448,960,2032,4095,8191,0]) (.block 0 (.loop (sq [(z9 21 .lss 20 19)] (.seq (cd 21 .skip (.exit 0)) (.seq (.block 1 (sq [(z6 22 1 18 20),(z2 23 22),(mv 5 23)] (.ops [(mv 24 5),(mv 25 0),(x3 26 25),(z1 27 0 26),(z2 28 27),(ox 29 (.call (t 24) [(t 28)]))]))) (.ops [(z8 30 .add 20 1),(mv 20 30)]))))))) (.ops [(mv 31 0),(mv 32 0),(mv 33 0),(x3 34 33),(z1 35 0 34),(z2 36 35),(y7 37 43 36),(x3 38 31),(z1 39 1 38),(y6 39 37),(x3 40 32),(z1 41 2 40),(on (.store none (t 41) (.v .nils)))])),42,[]⟩
theorem c19_ok:QAE Tryz.prog [] 19 = some c19:=by kernel_rfl
def c20:AFn:=⟨(sq [(ox 4 (.alloc 34 rz)),(y2 5)] (sq [(mv 9 1),(y7 10 31 9),(mv 8 10),(z7 11 8 0),(z7 12 8 1),(mv 6 11),(mv 7 12)] (.seq (sq [(mv 13 7),(z8 14 .neq 13 0)] (cd 14 (sq [(ox 15 (.build rz [])),(y5 12 4 15),(y2 5)] .ret) .skip)) (sq [(mv 16 0),(mv 17 6),(y8 18 49 16 17),(z7 19 18 0),(z7 20 18 1),(y5 12 4 19),(mv 5 20)] .ret)))),21,[(.cell 4 (some 12)),(.tmp 5)]⟩
theorem c20_ok:QAE Tryz.prog [] 20 = some c20:=by kernel_rfl
def c32:AFn:=⟨(sq [(z3 2 0)] (sq [(mv 3 0),(x3 4 3),(z1 5 2 4),(z2 6 5),(y9 7 6),(mv 2 7)] .ret)),8,[(.tmp 2)]⟩
theorem c32_ok:QAE Tryz.prog [] 32 = some c32:=by kernel_rfl
def c45:AFn:=⟨(sq [(z3 4 0)] (sq [(mv 5 1),(mv 6 0),(x3 7 6),(z1 8 1 7),(z2 9 8),(ox 10 (.call (t 5) [(t 9)]))] (sq [(mv 11 0),(mv 12 0),(x3 13 12),(z1 14 2 13),(z2 15 14),(mv 16 1),(x7 17 88 1 16),(x6 18 88 1 8 15 17),(x3 19 11),(z1 20 2 19),(y6 20 18)] (sq [(z3 4 0)] .ret)))),21,[(.tmp 4)]⟩
theorem c45_ok:QAE Tryz.prog [] 45 = some c45:=by kernel_rfl
def c46:AFn:=⟨(sq [(x4 2 90 0)] (.ops [(mv 4 1),(z1 5 0 2),(z2 6 5),(on (.mdel .str (t 4) (t 6)))])),7,[]⟩
theorem c46_ok:QAE Tryz.prog [] 46 = some c46:=by kernel_rfl
def c48:AFn:=⟨(sq [(x4 2 90 0)] (.ops [(mv 4 1),(z1 5 0 2),(z2 6 5),(z1 7 1 2),(z2 8 7),(on (.mapset .str (t 4) (t 6) (t 8)))])),9,[]⟩
theorem c48_ok:QAE Tryz.prog [] 48 = some c48:=by kernel_rfl
def c49:AFn:=⟨(sq [(ox 4 (.alloc 34 rz)),(y2 5)] (sq [(mv 11 0),(x3 12 11),(z1 13 1 12),(z2 14 13),(mv 15 1),(ox 16 (.lookup .str (.str []) false (t 14) (t 15))),(y7 17 84 16),(mv 10 17),(z7 18 10 0),(z7 19 10 1),(ox 6 (.alloc 34 rz)),(y5 12 6 18),(mv 7 19)] (.seq (sq [(mv 20 7),(z8 21 .neq 20 0)] (cd 21 (sq [(ox 22 (.build rz [])),(y5 12 4 22),(y2 5)] .ret) .skip)) (.seq (sq [(z1 24 0 6),(z2 25 24),(y7 26 31 25),(mv 23 26),(z7 27 23 0),(z7 28 23 1),(mv 8 27),(mv 9 28)] (sq [(mv 29 8),(mv 30 1),(z9 31 .neq 29 30)] (cd 31 (sq [(ox 32 (.build rz [])),(y5 12 4 32),(y2 5)] .ret) .skip))) (sq [(y1 33 12 6),(y5 12 4 33),(ox 5 (mb true))] .ret))))),34,[(.cell 4 (some 12)),(.tmp 5)]⟩
theorem c49_ok:QAE Tryz.prog [] 49 = some c49:=by kernel_rfl
end Go.Ab
