/- A layer of abstract values over the model, and what is proved with it: part T2. -/
import Derived.Test.YtpknaffdaemlbaaGreatDoorOX
import Derived.Shelf.Strings.Builder1
import Derived.Shelf.Strings.Builder2
import Derived.Shelf.Strings.OnBuilder
import Derived.Shelf.Small.Utf8
import Derived.Shelf.Small.Bits
import Derived.Shelf.Small.Strs
import Derived.Shelf.Small.Wraps
import Derived.Shelf.Utf8.RuneCount
import Derived.Shelf.Strconv.Itoa0
import Derived.Shelf.Strconv.Itoa1
import Derived.Shelf.LaysM
import Derived.Shelf.Strconv.Itoa2
import Derived.Shelf.Strconv.Itoa3
import Derived.Shelf.Strconv.Itoa4
import Derived.Shelf.Strconv.Clone
import Derived.Shelf.Strconv.SyntaxError
import Derived.Shelf.LaysC
import Derived.Shelf.Strconv.ToError
import Derived.Shelf.Strconv.RangeError
import Derived.Shelf.Strconv.ToErrorRange
import Derived.Shelf.Strings.Search1
import Derived.Shelf.Strings.Search2
import Derived.Shelf.Strings.Search3
import Derived.Shelf.Strings.Cut
import Derived.Shelf.Strings.Count
import Derived.Shelf.Strings.Shaped
import Derived.Shelf.Strings.Prefix
import Derived.Shelf.Strings.Split
import Derived.Shelf.Strings.SplitShaped
import Derived.Shelf.Unicode.Latin
import Derived.Shelf.Unicode.Decode
import Derived.Shelf.Strings.Runes
import Derived.Shelf.Strings.RuneCount
import Derived.Shelf.Strings.IndexAny
import Derived.Shelf.Strings.AsciiSet
import Derived.Shelf.Strings.IndexAnyAll
import Derived.Shelf.Strings.Explode
import Derived.Shelf.Bits.Mul64
import Derived.Shelf.Unicode.DecodeSlow
import Derived.Shelf.Unicode.DecodeAny
import Derived.Shelf.Unicode.CaseLookup
import Derived.Shelf.Unicode.CaseConvert
import Derived.Shelf.Unicode.CaseTo
import Derived.Shelf.Unicode.CaseLaid
import Derived.Test.YtpknaffdaemlbaaGreatDoorProg
import Derived.Test.YtpknaffdaemlbaaGreatDoorCX
import Derived.Test.YtpknaffdaemlbaaGreatDoorSK
import Derived.Sort.Walk0
import Derived.Sort.LotA
namespace Go.Proofs
open Go.Shelf Go.RowKit Go.Lib Go.Sort
def Tryz.lays125_ren : Go.Shelf.Ren := ⟨fun | 125 => 95 | 128 => 137 | 129 => 138 | n => n, fun | 46 => 98 | 3 => 3 | 51 => 142 | 53 => 145 | 4 => 4 | 5 => 5 | 9 => 9 | n => n, fun | n => n⟩
theorem Tryz.lays125 : Go.Proofs.Lays.n125 Tryz.prog Tryz.lays125_ren := {
  mixed := by kernel_rfl
  f125 := Tryz.func95.trans (congrArg some (by kernel_rfl))
  f128 := Tryz.func137.trans (congrArg some (by kernel_rfl))
  f129 := Tryz.func138.trans (congrArg some (by kernel_rfl))
  t3 := Tryz.underlying3
  a3 := Tryz.isAgg3
  z3 := Tryz.sizeOf3
  v3 := Tryz.zeroValue3
  t4 := Tryz.underlying4
  a4 := Tryz.isAgg4
  z4 := Tryz.sizeOf4
  v4 := Tryz.zeroValue4
  t5 := Tryz.underlying5
  a5 := Tryz.isAgg5
  z5 := Tryz.sizeOf5
  v5 := Tryz.zeroValue5
  t9 := Tryz.underlying9
  a9 := Tryz.isAgg9
  z9 := Tryz.sizeOf9
  v9 := Tryz.zeroValue9
  t46 := Tryz.underlying98
  a46 := Tryz.isAgg98
  z46 := Tryz.sizeOf98
  v46 := Tryz.zeroValue98
  t51 := Tryz.underlying142
  a51 := Tryz.isAgg142
  z51 := Tryz.sizeOf142
  v51 := Tryz.zeroValue142
  t53 := Tryz.underlying145
  a53 := Tryz.isAgg145
  z53 := Tryz.sizeOf145
  v53 := Tryz.zeroValue145 }
theorem Tryz.bits_Len (x : Int) (w : World) (h0 : 0 ≤ x) (h1 : x ≤ 18446744073709551615) :
    Calls Tryz.prog 95 #[.int .u64 x] w fun e w' => e = .returned (.int .i64 (Lib.bitLen x.toNat)) ∧ w' = w := Any.bits_Len Tryz.lays125 x w h0 h1
end Go.Proofs
namespace Go.Ab
open Go Go.Proofs
def c178 : AFn := ⟨(sq [(ox 2 (mb false))] (sq [(mv 3 0), (mv 4 0), (ox 5 (b2 .neq 3 4)), (mv 2 5)] .ret)), 6, [(.tmp 2)]⟩
theorem c178_ok : compileF Tryz.prog [] 178 = some c178 := by kernel_rfl
def c142 : AFn := ⟨(sq [(ox 4 (.mov (iv 0)))] (sq [(mv 7 0), (ox 8 (fc 178 [(.t 7)])), (mv 5 8)] (sq [(mv 9 1), (ox 10 (fc 178 [(.t 9)])), (mv 6 10)] (.seq (sq [(mv 11 5)] (cd 11 (.seq (sq [(mv 12 6)] (cd 12 (sq [(ox 4 (.mov (iv 0)))] .ret) .skip)) (sq [(ox 4 (.mov (iv (-1))))] .ret)) .skip)) (.seq (sq [(mv 13 6)] (cd 13 (sq [(ox 4 (.mov (iv 1)))] .ret) .skip)) (.seq (sq [(mv 14 0), (mv 15 1), (ox 16 (b2 .lss 14 15))] (cd 16 (sq [(ox 4 (.mov (iv (-1))))] .ret) .skip)) (.seq (sq [(mv 17 0), (mv 18 1), (ox 19 (b2 .gtr 17 18))] (cd 19 (sq [(ox 4 (.mov (iv 1)))] .ret) .skip)) (sq [(ox 4 (.mov (iv 0)))] .ret)))))))), 20, [(.tmp 4)]⟩
theorem c142_ok : compileF Tryz.prog [] 142 = some c142 := by kernel_rfl
def c97 : AFn := ⟨(sq [(ox 4 (.mov (iv 0)))] (.seq (sq [(mv 9 0), (ox 10 (.len .sl (.t 9))), (ox 11 (.mov (iv 0)))] (.block 0 (.loop (sq [(ox 12 (b2 .lss 11 10))] (.seq (cd 12 .skip (.exit 0)) (.seq (.block 1 (sq [(mv 13 11), (ox 14 (.iaddr none 1 (.t 9) (.t 11))), (ox 15 (ld 14)), (mv 5 13), (mv 6 15)] (.seq (sq [(mv 16 5), (mv 17 1), (ox 18 (.len .sl (.t 17))), (ox 19 (b2 .geq 16 18))] (cd 19 (sq [(ox 4 (.mov (iv 1)))] .ret) .skip)) (sq [(mv 20 1), (mv 21 5), (ox 22 (.iaddr none 1 (.t 20) (.t 21))), (ox 23 (ld 22)), (mv 7 23)] (sq [(mv 24 6), (mv 25 7), (ox 26 (fc 142 [(.t 24), (.t 25)])), (mv 8 26)] (sq [(mv 27 8), (ox 28 (b1 .neq 27 0))] (cd 28 (sq [(mv 29 8), (mv 4 29)] .ret) .skip))))))) (.ops [(ox 30 (b1 .add 11 1)), (mv 11 30)]))))))) (.seq (sq [(mv 31 0), (ox 32 (.len .sl (.t 31))), (mv 33 1), (ox 34 (.len .sl (.t 33))), (ox 35 (b2 .lss 32 34))] (cd 35 (sq [(ox 4 (.mov (iv (-1))))] .ret) .skip)) (sq [(ox 4 (.mov (iv 0)))] .ret)))), 36, [(.tmp 4)]⟩
theorem c97_ok : compileF Tryz.prog [] 97 = some c97 := by kernel_rfl
def c61 : AFn := ⟨(sq [(ox 4 (.mov (iv 0))), (ox 5 (.mov (iv 0)))] (sq [(mv 11 0), (ox 12 (fc 96 [(.t 11)])), (mv 10 12), (ox 13 (xt 10 0)), (ox 14 (xt 10 1)), (mv 6 13), (mv 7 14)] (sq [(mv 16 1), (ox 17 (fc 96 [(.t 16)])), (mv 15 17), (ox 18 (xt 15 0)), (ox 19 (xt 15 1)), (mv 8 18), (mv 9 19)] (.seq (sq [(mv 20 7), (ox 21 (b1 .neq 20 0)), (mv 22 21), (of 23 (.mov (.t 9)) 22), (of 24 (b1 .neq 23 0) 22), (ox 25 (.pick (.t 22) (.v (.bool true)) (.t 24)))] (cd 25 (sq [(ox 4 (.mov (iv 0))), (ox 5 (.mov (iv 10)))] .ret) .skip)) (sq [(mv 26 6), (mv 27 8), (ox 28 (fc 97 [(.t 26), (.t 27)])), (mv 4 28), (ox 5 (.mov (iv 0)))] .ret))))), 29, [(.tmp 4), (.tmp 5)]⟩
theorem c61_ok : compileF Tryz.prog [] 61 = some c61 := by kernel_rfl
def c60 : AFn := ⟨(sq [(ox 2 (.box 34 (.t 0))), (ox 3 (.box 34 (.t 1))), (ox 4 (.mov (iv 0)))] (sq [(ox 8 (fa 0 2)), (ox 9 (ld 8)), (ox 10 (fa 0 3)), (ox 11 (ld 10)), (ox 12 (fc 61 [(.t 9), (.t 11)])), (mv 7 12), (ox 13 (xt 7 0)), (ox 14 (xt 7 1)), (mv 5 13), (mv 6 14)] (sq [(mv 15 5), (mv 4 15)] .ret))), 16, [(.tmp 4)]⟩
theorem c60_ok : compileF Tryz.prog [] 60 = some c60 := by kernel_rfl
def c129 : AFn := ⟨(sq [(mv 10 1), (ox 11 (b1 .add 10 1)), (mv 8 11)] (.block 0 (.loop (.seq (sq [(mv 12 8), (mv 13 2), (ox 14 (b2 .lss 12 13))] (cd 14 .skip (.exit 0))) (.seq (.block 1 (sq [(mv 17 8), (mv 9 17)] (.block 2 (.loop (.seq (.seq (.draw [(mv 18 9), (mv 19 1), (ox 20 (b2 .gtr 18 19)), (mv 21 20), (ot 22 (.mov (.t 3)) 21), (ot 23 (.mov (.t 0)) 21), (ot 24 (.mov (.t 9)) 21), (ot 25 (.iaddr none 12 (.t 23) (.t 24)) 21), (ot 26 (.load (some 12) (.t 25)) 21), (ot 27 (.mov (.t 0)) 21), (ot 28 (.mov (.t 9)) 21), (ot 29 (b1 .sub 28 1) 21), (ot 30 (.iaddr none 12 (.t 27) (.t 29)) 21), (ot 31 (.load (some 12) (.t 30)) 21), (ot 32 (.call (.t 22) [(.t 26), (.t 31)]) 21), (ot 33 (b1 .lss 32 0) 21), (ox 34 (.pick (.t 21) (.t 33) (.v (.bool false))))] [0, 0, 3, 7, 15, 15, 15, 111, 239, 15, 15, 1039, 3599, 7695, 16383, 32767, 65535]) (cd 34 .skip (.exit 2))) (.seq (.block 3 (.draw [(mv 37 0), (mv 38 9), (mv 39 0), (mv 40 9), (ox 41 (b1 .sub 40 1)), (mv 42 0), (mv 43 9), (ox 44 (b1 .sub 43 1)), (ox 45 (.iaddr none 12 (.t 42) (.t 44))), (ox 46 (.load (some 12) (.t 45))), (mv 47 0), (mv 48 9), (ox 49 (.iaddr none 12 (.t 47) (.t 48))), (ox 50 (.load (some 12) (.t 49))), (ox 51 (.iaddr none 12 (.t 37) (.t 38))), (on (.store (some 12) (.t 51) (.t 46))), (ox 52 (.iaddr none 12 (.t 39) (.t 41))), (on (.store (some 12) (.t 52) (.t 50)))] [0, 0, 0, 0, 8, 0, 0, 64, 224, 480, 0, 0, 3072, 7168, 16355, 32739, 65535, 131071])) (.ops [(mv 35 9), (ox 36 (b1 .sub 35 1)), (mv 9 36)]))))))) (.ops [(mv 15 8), (ox 16 (b1 .add 15 1)), (mv 8 16)])))))), 53, []⟩
theorem c129_ok : compileF Tryz.prog [] 129 = some c129 := by kernel_rfl
def c94 : AFn := ⟨(sq [(ox 10 (mb true))] (sq [(ox 11 (mb true))] (.block 0 (.loop (.block 1 (sq [(mv 21 2), (mv 22 1), (ox 23 (b2 .sub 21 22)), (mv 12 23)] (.seq (sq [(mv 24 12), (ox 25 (b1 .leq 24 12))] (cd 25 (sq [(mv 26 0), (mv 27 1), (mv 28 2), (mv 29 4), (ox 30 (fc 129 [(.t 26), (.t 27), (.t 28), (.t 29)]))] .ret) .skip)) (.seq (sq [(mv 31 3), (ox 32 (b1 .eql 31 0))] (cd 32 (sq [(mv 33 0), (mv 34 1), (mv 35 2), (mv 36 4), (ox 37 (fc 130 [(.t 33), (.t 34), (.t 35), (.t 36)]))] .ret) .skip)) (.seq (sq [(mv 38 10), (ox 39 (.un .not (.t 38)))] (cd 39 (sq [(mv 40 0), (mv 41 1), (mv 42 2), (mv 43 4), (ox 44 (fc 131 [(.t 40), (.t 41), (.t 42), (.t 43)]))] (.ops [(mv 45 3), (ox 46 (b1 .sub 45 1)), (mv 3 46)])) .skip)) (sq [(mv 48 0), (mv 49 1), (mv 50 2), (mv 51 4), (ox 52 (fc 132 [(.t 48), (.t 49), (.t 50), (.t 51)])), (mv 47 52), (ox 53 (xt 47 0)), (ox 54 (xt 47 1)), (mv 13 53), (mv 14 54)] (.seq (sq [(mv 55 14), (ox 56 (b1 .eql 55 2))] (cd 56 (sq [(mv 57 0), (mv 58 1), (mv 59 2), (mv 60 4), (ox 61 (fc 133 [(.t 57), (.t 58), (.t 59), (.t 60)]))] (sq [(mv 62 2), (ox 63 (b1 .sub 62 1)), (mv 64 13), (mv 65 1), (ox 66 (b2 .sub 64 65)), (ox 67 (b2 .sub 63 66)), (mv 13 67)] (.ops [(ox 14 (.mov (iv 1)))]))) .skip)) (.seq (sq [(mv 68 10), (mv 69 68), (ot 70 (.mov (.t 11)) 69), (ox 71 (.pick (.t 69) (.t 70) (.v (.bool false)))), (mv 72 71), (ot 73 (.mov (.t 14)) 72), (ot 74 (b1 .eql 73 1) 72), (ox 75 (.pick (.t 72) (.t 74) (.v (.bool false))))] (cd 75 (sq [(mv 76 0), (mv 77 1), (mv 78 2), (mv 79 4), (ox 80 (fc 134 [(.t 76), (.t 77), (.t 78), (.t 79)]))] (cd 80 .ret .skip)) .skip)) (.seq (.seq (.draw [(mv 81 1), (ox 82 (b1 .gtr 81 0)), (mv 83 82), (ot 84 (.mov (.t 4)) 83), (ot 85 (.mov (.t 0)) 83), (ot 86 (.mov (.t 1)) 83), (ot 87 (b1 .sub 86 1) 83), (ot 88 (.iaddr none 12 (.t 85) (.t 87)) 83), (ot 89 (.load (some 12) (.t 88)) 83), (ot 90 (.mov (.t 0)) 83), (ot 91 (.mov (.t 13)) 83), (ot 92 (.iaddr none 12 (.t 90) (.t 91)) 83), (ot 93 (.load (some 12) (.t 92)) 83), (ot 94 (.call (.t 84) [(.t 89), (.t 93)]) 83), (ot 95 (b1 .lss 94 0) 83), (ot 96 (.un .not (.t 95)) 83), (ox 97 (.pick (.t 83) (.t 96) (.v (.bool false))))] [0, 1, 3, 7, 7, 7, 39, 119, 247, 7, 7, 1543, 3591, 8191, 16383, 32767, 65535]) (cd 97 (sq [(mv 98 0), (mv 99 1), (mv 100 2), (mv 101 13), (mv 102 4), (ox 103 (fc 135 [(.t 98), (.t 99), (.t 100), (.t 101), (.t 102)])), (mv 15 103)] (sq [(mv 104 15), (mv 1 104)] (.exit 1))) .skip)) (sq [(mv 106 0), (mv 107 1), (mv 108 2), (mv 109 13), (mv 110 4), (ox 111 (fc 136 [(.t 106), (.t 107), (.t 108), (.t 109), (.t 110)])), (mv 105 111), (ox 112 (xt 105 0)), (ox 113 (xt 105 1)), (mv 16 112), (mv 17 113)] (sq [(mv 114 17), (mv 11 114)] (sq [(mv 115 16), (mv 116 1), (ox 117 (b2 .sub 115 116)), (mv 118 2), (mv 119 16), (ox 120 (b2 .sub 118 119)), (mv 18 117), (mv 19 120)] (sq [(mv 121 12), (ox 122 (b1 .quo 121 8)), (mv 20 122)] (sq [(mv 123 18), (mv 124 19), (ox 125 (b2 .lss 123 124))] (cd 125 (sq [(mv 126 18), (mv 127 20), (ox 128 (b2 .geq 126 127)), (mv 10 128)] (sq [(mv 129 0), (mv 130 1), (mv 131 16), (mv 132 3), (mv 133 4), (ox 134 (fc 94 [(.t 129), (.t 130), (.t 131), (.t 132), (.t 133)]))] (.ops [(mv 135 16), (ox 136 (b1 .add 135 1)), (mv 1 136)]))) (sq [(mv 137 19), (mv 138 20), (ox 139 (b2 .geq 137 138)), (mv 10 139)] (sq [(mv 140 0), (mv 141 16), (ox 142 (b1 .add 141 1)), (mv 143 2), (mv 144 3), (mv 145 4), (ox 146 (fc 94 [(.t 140), (.t 142), (.t 143), (.t 144), (.t 145)]))] (.ops [(mv 147 16), (mv 2 147)])))))))))))))))))))))), 148, []⟩
theorem c94_ok : compileF Tryz.prog [] 94 = some c94 := by kernel_rfl
def c59 : AFn := ⟨(sq [(mv 5 0), (ox 6 (.len .sl (.t 5))), (mv 4 6)] (.ops [(mv 7 0), (mv 8 4), (mv 9 4), (ox 10 (.conv .u64 (.t 9))), (ox 11 (fc 95 [(.t 10)])), (mv 12 1), (ox 13 (fc 94 [(.t 7), (iv 0), (.t 8), (.t 11), (.t 12)]))])), 14, []⟩
theorem c59_ok : compileF Tryz.prog [] 59 = some c59 := by kernel_rfl
end Go.Ab
namespace Go.Ab
open Go Go.Proofs
def cmpS (a b : List UInt8) : Int := if a < b then -1 else if a = b then 0 else 1
def cmpL : List (List UInt8) → List (List UInt8) → Int
  | [], [] => 0
  | [], _ :: _ => -1
  | _ :: _, [] => 1
  | x :: r, y :: s => if cmpS x y = 0 then cmpL r s else cmpS x y
theorem isNan_c (a : List UInt8) : ACalls Tryz.prog 178 [.str a] [] (.bool false) [] := by
  refine acalls_F c178_ok rfl ?_
  unfold c178
  simp +decide -dsimp -implicitDefEqProofs [go_sem]
theorem cmpS_c (a b : List UInt8) : ACalls Tryz.prog 142 [.str a, .str b] [] (.int .i64 (cmpS a b)) [] := by
  have e : Op.bytesLess a b = decide (a < b) := bytesLess_eq a b
  refine acalls_F c142_ok rfl ?_
  unfold c142
  simp +decide -dsimp -implicitDefEqProofs [go_sem]
  refine callE_pure (isNan_c a) rfl rfl ?_
  simp +decide -dsimp -implicitDefEqProofs [go_sem]
  refine callE_pure (isNan_c b) rfl rfl ?_
  by_cases h : a < b
  · simp +decide -dsimp -implicitDefEqProofs [go_sem, e, h, cmpS]
  · by_cases h2 : a = b
    · subst h2
      simp +decide -dsimp -implicitDefEqProofs [go_sem, e, h, cmpS]
    · simp +decide -dsimp -implicitDefEqProofs [go_sem, e, h, h2, cmpS]
theorem cmpLs_c (l m : List (List UInt8)) (hl : l.length < 1000000) (_hm : m.length < 1000000) : ACalls Tryz.prog 97 [.imm (l.map sRow), .imm (m.map sRow)] [] (.int .i64 (cmpL l m)) [] := by
  refine acalls_F c97_ok rfl ?_
  unfold c97
  simp +decide -dsimp -implicitDefEqProofs [go_sem]
  refine loop_of (S := Nat) (fun i => ⟨tmps 36 [(0, .imm (l.map sRow)), (1, .imm (m.map sRow)), (9, .imm (l.map sRow)), (10, .int .i64 l.length), (11, .int .i64 i)], []⟩) (fun i => l.length - i)
    (fun i => i ≤ l.length ∧ i ≤ m.length ∧ cmpL l m = cmpL (l.drop i) (m.drop i)) 0 (by simp) (cut_of (by simp) ?_) ?_
  · simp +decide -dsimp -implicitDefEqProofs [go_sem]
  rintro i ⟨hi, hj, hc⟩
  by_cases h : i < l.length
  · have hdl : l.drop i = l[i] :: l.drop (i + 1) := List.drop_eq_getElem_cons h
    have w : IntKind.i64.wrap ((i : Int) + 1) = i + 1 := w64 (by omega) (by omega)
    by_cases h2 : i < m.length
    · have hdm : m.drop i = m[i] :: m.drop (i + 1) := List.drop_eq_getElem_cons h2
      have h3 : ¬ m.length ≤ i := by omega
      rw [hdl, hdm, cmpL] at hc
      have cs := cmpS_c l[i] m[i]
      simp +decide -dsimp -implicitDefEqProofs [go_sem, h, h2, h3]
      refine callE_pure cs rfl rfl ?_
      by_cases h0 : cmpS l[i] m[i] = 0
      · rw [if_pos h0] at hc
        simp +decide -dsimp -implicitDefEqProofs [go_sem, h0, w]
        refine next_of (i + 1) ⟨by omega, by omega, hc⟩ (by show l.length - (i + 1) < l.length - i; omega) (cut_of (by simp) ?_)
        simp +decide -dsimp -implicitDefEqProofs [go_sem]
      · rw [if_neg h0] at hc
        simp +decide -dsimp -implicitDefEqProofs [go_sem, h0, hc]
    · have h3 : m.length ≤ i := by omega
      have hdm : m.drop i = [] := List.drop_eq_nil_of_le h3
      rw [hdl, hdm, cmpL] at hc
      simp +decide -dsimp -implicitDefEqProofs [go_sem, h, h3, hc]
  · have e : i = l.length := by omega
    subst e
    rw [List.drop_length] at hc
    by_cases h2 : l.length < m.length
    · have hdm : m.drop l.length = m[l.length] :: m.drop (l.length + 1) := List.drop_eq_getElem_cons h2
      rw [hdm, cmpL] at hc
      simp +decide -dsimp -implicitDefEqProofs [go_sem, h2, hc]
    · have hdm : m.drop l.length = [] := List.drop_eq_nil_of_le (by omega)
      rw [hdm, cmpL] at hc
      simp +decide -dsimp -implicitDefEqProofs [go_sem, h2, hc]
def compsP (p : List UInt8) : List (List UInt8) := (pathL p).getD []
def cmpP (a b : List UInt8) : Int := cmpL (compsP a) (compsP b)
theorem comps_some {p : List UInt8} (h : placeB p = true) : pathL p = some (compsP p) ∧ (compsP p).length ≤ 7 := by
  unfold placeB at h
  unfold compsP
  cases e : pathL p with
  | none => rw [e] at h; cases h
  | some l => rw [e] at h; exact ⟨rfl, by simpa using h⟩
theorem nCompare_c (a b : List UInt8) (ha : placeB a = true) (hb : placeB b = true) : ACalls Tryz.prog 61 [.str a, .str b] [] (.tup [.int .i64 (cmpP a b), .int .i64 0]) [] := by
  obtain ⟨ea, la⟩ := comps_some ha
  obtain ⟨eb, lb⟩ := comps_some hb
  have ca := nSplit_c a (by have := path_small ha; omega)
  have cb := nSplit_c b (by have := path_small hb; omega)
  rw [ea] at ca
  rw [eb] at cb
  have cc := cmpLs_c (compsP a) (compsP b) (by omega) (by omega)
  refine acalls_F c61_ok rfl ?_
  unfold c61
  simp +decide -dsimp -implicitDefEqProofs [go_sem]
  refine callE_pure ca rfl (by simp +decide -dsimp -implicitDefEqProofs [go_sem]) ?_
  simp +decide -dsimp -implicitDefEqProofs [go_sem]
  refine callE_pure cb rfl (by simp +decide -dsimp -implicitDefEqProofs [go_sem]) ?_
  simp +decide -dsimp -implicitDefEqProofs [go_sem]
  refine callE_pure cc (by simp +decide -dsimp -implicitDefEqProofs [go_sem]) rfl ?_
  simp +decide -dsimp -implicitDefEqProofs [go_sem, cmpP]
theorem less_c (a b : Rcd) (ha : placeB a.path = true) (hb : placeB b.path = true) : ACalls Tryz.prog 60 [.agg (rRow a), .agg (rRow b)] [] (.int .i64 (cmpP a.path b.path)) [] := by
  refine acalls_F c60_ok rfl ?_
  unfold c60 rRow
  simp +decide -dsimp -implicitDefEqProofs [go_sem]
  refine callE_pure (nCompare_c a.path b.path ha hb) rfl rfl ?_
  simp +decide -dsimp -implicitDefEqProofs [go_sem]
end Go.Ab
namespace Go.Ab
open Go Go.Proofs Go.Sort
instance : Inhabited Rcd := ⟨nil0⟩
def ltR (x y : Rcd) : Bool := decide (cmpP x.path y.path < 0)
def rows (d : Array Rcd) : List (List AV) := d.toList.map rRow
def okP (d : Array Rcd) : Prop := ∀ x ∈ d.toList, placeB x.path = true
theorem okP_at {d : Array Rcd} (h : okP d) {j : Nat} (hj : j < d.size) : placeB d[j]!.path = true := by
  rw [getElem!_pos d j hj]; exact h _ (by simp)
theorem rows_at {d : Array Rcd} {j : Nat} (hj : j < d.size) : (rows d)[j]? = some (rRow d[j]!) := by
  rw [getElem!_pos d j hj]; simp [rows, hj]
theorem rows_len (d : Array Rcd) : (rows d).length = d.size := by simp [rows]
theorem swp_size (d : Array Rcd) (i j : Nat) : (swp d i j).size = d.size := by simp [swp]
theorem rows_swp (d : Array Rcd) (i j : Nat) : ((rows d).set i (rRow d[j]!)).set j (rRow d[i]!) = rows (swp d i j) := by simp [rows, swp]
theorem okP_swp {d : Array Rcd} (h : okP d) {i j : Nat} (hi : i < d.size) (hj : j < d.size) : okP (swp d i j) := by
  intro x hx
  simp only [swp, Array.toList_setIfInBounds] at hx
  rcases List.mem_or_eq_of_mem_set hx with hx | rfl
  · rcases List.mem_or_eq_of_mem_set hx with hx | rfl
    · exact h x hx
    · exact okP_at h hj
  · exact okP_at h hi
def rgO (d : Array Rcd) : AObj := .reg 34 12 (rows d)
theorem rows_cl (k : Nat) (d : Array Rcd) : closedLL k (rows d) = true := closedLL_map fun x _ => rRow_cl k x
theorem rows_ren (is : List Nat) (d : Array Rcd) : renLL is (rows d) = rows d := by
  unfold rows
  induction d.toList with
  | nil => rfl
  | cons x r ih => rw [List.map_cons, renLL, ih, rRow_ren]
theorem rRow_drop (r : Rcd) : (rRow r).drop 12 = [] := rfl
theorem Len_c (n : Nat) (h : n ≤ 1000000) : ACalls Tryz.prog 95 [.int .u64 n] [] (.int .i64 (Go.Lib.bitLen n : Nat)) [] := by
  refine .of_below (by kernel_rfl) fun c vs hv hg => ?_
  simp only [Vals, Val] at hv
  obtain ⟨v, vs', rfl, rfl, rfl⟩ := hv
  refine (Tryz.bits_Len n c.w (by omega) (by omega)).mono fun e w' h => ?_
  obtain ⟨rfl, rfl⟩ := h
  exact ⟨_, rfl, Go.RowKit.Below.refl _ _, fun c' => by simp only [Val]; rw [Int.toNat_natCast]⟩
end Go.Ab
namespace Go.Ab
open Go Go.Proofs Go.Sort
theorem join_split : ∀ s : List UInt8, joinP (splitC 47 s) = 47 :: s
  | [] => rfl
  | x :: r => by
    have ih := join_split r
    unfold splitC
    by_cases h : x = 47
    · subst h; rw [if_pos rfl, joinP, ih]; rfl
    · rw [if_neg h]
      have hne := splitC_ne 47 r
      cases e : splitC 47 r with
      | nil => exact absurd e hne
      | cons a l =>
        rw [e] at ih
        simp only [joinP, List.cons.injEq, true_and] at ih ⊢
        rw [← ih]; rfl
theorem pathL_join {p : List UInt8} {l : List (List UInt8)} (h : pathL p = some l) : p = joinP l := by
  cases p with
  | nil => cases h
  | cons c r =>
    simp only [pathL] at h
    split at h
    · rename_i h2
      obtain ⟨rfl, _⟩ := h2
      cases h
      rw [splitL_eq, join_split]
    · cases h
theorem cmpS_lt (a b : List UInt8) : cmpS a b < 0 ↔ a < b := by
  unfold cmpS
  by_cases h : a < b
  · simp [h]
  · by_cases h2 : a = b
    · subst h2; simp [h]
    · simp [h, h2]
theorem cmpS_eq (a b : List UInt8) : cmpS a b = 0 ↔ a = b := by
  unfold cmpS
  by_cases h : a < b
  · have : a ≠ b := fun e => by subst e; exact List.lt_irrefl _ h
    simp [h, this]
  · by_cases h2 : a = b
    · subst h2; simp [h]
    · simp [h, h2]
theorem cmpL_eq : ∀ (l m : List (List UInt8)), cmpL l m = 0 ↔ l = m
  | [], [] => by simp [cmpL]
  | [], _ :: _ => by simp [cmpL]
  | _ :: _, [] => by simp [cmpL]
  | x :: r, y :: s => by
    rw [cmpL]
    by_cases h : cmpS x y = 0
    · rw [if_pos h, cmpL_eq r s]
      rw [cmpS_eq] at h
      simp [h]
    · rw [if_neg h]
      have h2 : x ≠ y := fun e => h ((cmpS_eq x y).2 e)
      simp [h, h2]
theorem cmpL_lt : ∀ (l m : List (List UInt8)), cmpL l m < 0 ↔ l < m
  | [], [] => by simp [cmpL]
  | [], _ :: _ => by simp [cmpL]
  | _ :: _, [] => by simp [cmpL]
  | x :: r, y :: s => by
    rw [cmpL, List.cons_lt_cons_iff]
    by_cases h : cmpS x y = 0
    · rw [if_pos h, cmpL_lt r s]
      rw [cmpS_eq] at h
      subst h
      simp [List.lt_irrefl]
    · rw [if_neg h, cmpS_lt]
      have h2 : x ≠ y := fun e => h ((cmpS_eq x y).2 e)
      simp [h2]
theorem comps_inj {p q : List UInt8} (hp : placeB p = true) (hq : placeB q = true) (h : compsP p = compsP q) : p = q := by
  have h1 := pathL_join (comps_some hp).1
  have h2 := pathL_join (comps_some hq).1
  rw [h1, h2, h]
def ltP (p q : List UInt8) : Bool := decide (cmpP p q < 0)
theorem swo_ltP : SWO ltP where
  irrefl x := by simp [ltP, cmpP, cmpL_lt, List.lt_irrefl]
  trans x y z h1 h2 := by simp only [ltP, cmpP, cmpL_lt, decide_eq_true_eq] at *; exact List.lt_trans h1 h2
  ntrans x y z h1 h2 := by
    simp only [ltP, cmpP, cmpL_lt, decide_eq_false_iff_not, List.not_lt] at *
    exact List.le_trans h2 h1
theorem swo_ltR : SWO ltR where
  irrefl x := swo_ltP.irrefl x.path
  trans x y z := swo_ltP.trans x.path y.path z.path
  ntrans x y z := swo_ltP.ntrans x.path y.path z.path
theorem cmpP_ntot {p q : List UInt8} (hp : placeB p = true) (hq : placeB q = true) (h1 : ¬ cmpP p q < 0) (h2 : ¬ cmpP q p < 0) : p = q := by
  simp only [cmpP, cmpL_lt, List.not_lt] at h1 h2
  exact comps_inj hp hq (List.le_antisymm h2 h1)
theorem asc_ext {α : Type} {R : α → α → Prop} (ha : ∀ a b, R a b → ¬ R b a) : ∀ {l l' : List α}, l.Pairwise R → l'.Pairwise R → (∀ x, x ∈ l ↔ x ∈ l') → l = l'
  | [], [], _, _, _ => rfl
  | [], b :: l', _, _, h => absurd ((h b).2 (List.mem_cons_self ..)) (by simp)
  | a :: l, [], _, _, h => absurd ((h a).1 (List.mem_cons_self ..)) (by simp)
  | a :: l, b :: l', h1, h2, h => by
    rw [List.pairwise_cons] at h1 h2
    have e : a = b := by
      rcases List.mem_cons.1 ((h a).1 (List.mem_cons_self ..)) with e | e
      · exact e
      · rcases List.mem_cons.1 ((h b).2 (List.mem_cons_self ..)) with e2 | e2
        · exact e2.symm
        · exact absurd (h1.1 b e2) (ha _ _ (h2.1 a e))
    subst e
    have na : ∀ {m : List α}, (∀ x ∈ m, R a x) → a ∉ m := fun hm hx => ha _ _ (hm a hx) (hm a hx)
    have n1 := na h1.1
    have n2 := na h2.1
    rw [asc_ext ha h1.2 h2.2 fun x => ⟨fun hx => ?_, fun hx => ?_⟩]
    · rcases List.mem_cons.1 ((h x).1 (List.mem_cons_of_mem _ hx)) with rfl | h3
      · exact absurd hx n1
      · exact h3
    · rcases List.mem_cons.1 ((h x).2 (List.mem_cons_of_mem _ hx)) with rfl | h3
      · exact absurd hx n2
      · exact h3
def ascR (l : List Rcd) : Prop := l.Pairwise fun a b => cmpP a.path b.path < 0
theorem ascR_ext {l l' : List Rcd} (h1 : ascR l) (h2 : ascR l') (h : ∀ x, x ∈ l ↔ x ∈ l') : l = l' :=
  asc_ext (fun a b h k => by
    simp only [cmpP, cmpL_lt] at h k
    exact List.lt_irrefl _ (List.lt_trans h k)) h1 h2 h
theorem sorted_asc {d : Array Rcd} (h0 : okP d) (hn : d.toList.Pairwise fun a b => a.path ≠ b.path) : (∀ x, x ∈ (insertionSort ltR d 0 d.size).toList ↔ x ∈ d.toList) ∧ ascR (insertionSort ltR d 0 d.size).toList := by
  obtain ⟨⟨hsz, _, hperm⟩, hs⟩ := insertionSort_holds swo_ltR d 0 d.size (Nat.zero_le _) (Nat.le_refl _)
  generalize insertionSort ltR d 0 d.size = d' at *
  have e1 : d'.extract 0 d.size = d' := by rw [← hsz]; exact Array.extract_size
  rw [e1, Array.extract_size] at hperm
  refine ⟨fun x => hperm.mem_iff, ?_⟩
  have hn' : d'.toList.Pairwise fun a b => a.path ≠ b.path := (hperm.pairwise_iff fun h e => h e.symm).2 hn
  unfold ascR
  rw [List.pairwise_iff_getElem] at hn' ⊢
  intro i j hi hj hij
  have hi' : i < d'.size := by simpa using hi
  have hj' : j < d'.size := by simpa using hj
  have h3 := hs i j (Nat.zero_le _) hij (by omega)
  rw [getElem!_pos _ j hj', getElem!_pos _ i hi'] at h3
  have hne := hn' i j hi hj hij
  simp only [Array.getElem_toList] at hne ⊢
  refine Decidable.byContradiction fun hlt => hne ?_
  have hm : ∀ (k : Nat) (hk : k < d'.size), placeB d'[k].path = true := fun k hk => h0 _ (hperm.mem_iff.1 (by simp))
  exact cmpP_ntot (hm i hi') (hm j hj') hlt (by simpa [ltR] using h3)
structure AllOf (m : TMap) (l : List Rcd) : Prop where
  mem : ∀ r, r ∈ l ↔ soundB r = true ∧ getS (entL r.path) m = some (encT r)
  asc : ascR l
theorem AllOf.uniq {m : TMap} {l l' : List Rcd} (h : AllOf m l) (h' : AllOf m l') : l = l' :=
  ascR_ext h.asc h'.asc fun x => by rw [h.mem, h'.mem]
theorem AllOf.congr {m m' : TMap} {l : List Rcd} (h : AllOf m l) (he : ∀ k, getS k m = getS k m') : AllOf m' l :=
  ⟨fun r => by rw [h.mem, he], h.asc⟩
end Go.Ab
