/- A layer of abstract values over the model, and what is proved with it: part KB. -/
import Derived.Test.YtpknaffdaemlbaaGreatDoorOX
import Derived.Test.YtpknaffdaemlbaaGreatDoorCX
import Derived.Test.YtpknaffdaemlbaaGreatDoorW9
import Derived.Test.YtpknaffdaemlbaaGreatDoorW3
import Derived.Test.YtpknaffdaemlbaaGreatDoorW4
import Derived.Test.YtpknaffdaemlbaaGreatDoorA5
import Derived.Test.YtpknaffdaemlbaaGreatDoorRB
namespace Go.Ab
open Go Go.Proofs
def c41 : AFn := ⟨(sq [(ox 7 (.box 72 (.t 2))), (ox 10 (.alloc 72 [.nils, .nils])), (ox 11 (mb false))] (.seq (sq [(mv 29 0), (ox 30 (fc 13 [(.t 29), (iv 2)])), (ox 31 (b1 .eql 30 0))] (cd 31 (sq [(mv 32 0), (ox 33 (fc 15 [(.t 32)])), (mv 3 33)] (sq [(ox 34 (.load (some 2) (.t 7))), (ox 35 (fc 74 [(.t 34)])), (mv 12 35)] (sq [(mv 36 12), (ox 37 (.len .sl (.t 36))), (ox 38 (b1 .gtr 37 0)), (mv 39 38), (ot 40 (.mov (.t 0)) 39), (ot 41 (fc 13 [(.t 40), (iv 2)]) 39), (ot 42 (b1 .eql 41 0) 39), (ox 43 (.pick (.t 39) (.t 42) (.v (.bool false))))] (cd 43 (.ops [(mv 44 12), (mv 45 0), (mv 46 12), (ox 47 (.len .sl (.t 46))), (ox 48 (fc 13 [(.t 45), (.t 47)])), (ox 49 (.iaddr none 12 (.t 44) (.t 48))), (ox 50 (fa 0 49)), (ox 51 (ld 50)), (mv 3 51)]) .skip)))) .skip)) (.seq (sq [(mv 52 0), (ox 53 (fc 13 [(.t 52), (iv 10)]))] (.block 0 (.seq (sq [(ox 55 (b1 .eql 53 0)), (mv 54 55)] (cd 54 .skip (sq [(ox 56 (b1 .eql 53 1)), (mv 54 56)] (cd 54 .skip (sq [(ox 57 (b1 .eql 53 2)), (mv 54 57)] (cd 54 .skip (.ops [(ox 58 (b1 .eql 53 3)), (mv 54 58)]))))))) (cd 54 (sq [(mv 59 0), (mv 60 0), (ox 61 (fc 15 [(.t 60)])), (mv 62 0), (ox 63 (fc 13 [(.t 62), (iv 9)])), (ox 64 (.bin .add (iv 1) (.t 63))), (ox 65 (fc 17 [(.t 59), (.t 61), (.t 64)])), (ox 13 (.alloc 34 [(.str []), (.int .i64 0), .nils, .nils, .nils, .nils, .nils, (.str []), (.int .i64 0), (.str []), (.str []), (.int .i64 0)])), (on (.store (some 12) (.t 13) (.t 65)))] (.seq (sq [(mv 66 0), (ox 67 (fc 13 [(.t 66), (iv 6)])), (ox 68 (b1 .eql 67 0))] (cd 68 (.ops [(mv 69 0), (ox 70 (.load (some 12) (.t 13))), (ox 71 (fc 77 [(.t 69), (.t 70)])), (on (.store (some 12) (.t 13) (.t 71)))]) .skip)) (sq [(mv 72 1), (ox 73 (.load (some 12) (.t 13))), (ox 74 (fc 18 [(.t 72), (.t 73)])), (mv 14 74)] (sq [(ox 76 (.load (some 2) (.t 7))), (ox 77 (.load (some 12) (.t 13))), (ox 78 (fc 78 [(.t 76), (.t 77)])), (mv 75 78), (ox 79 (xt 75 0)), (ox 80 (xt 75 1)), (ox 15 (.alloc 72 [.nils, .nils])), (on (.store (some 2) (.t 15) (.t 79))), (mv 16 80)] (sq [(ox 81 (.load (some 2) (.t 15))), (mv 82 14), (mv 83 16), (ox 84 (b2 .eql 82 83)), (on (.store (some 2) (.t 10) (.t 81))), (mv 11 84)] .ret))))) (.seq (sq [(ox 86 (b1 .eql 53 4)), (mv 85 86)] (cd 85 .skip (.ops [(ox 87 (b1 .eql 53 5)), (mv 85 87)]))) (cd 85 (sq [(mv 88 1), (mv 89 3), (ox 90 (fc 16 [(.t 88), (.t 89)])), (mv 17 90)] (sq [(ox 92 (.load (some 2) (.t 7))), (mv 93 3), (ox 94 (fc 79 [(.t 92), (.t 93)])), (mv 91 94), (ox 95 (xt 91 0)), (ox 96 (xt 91 1)), (ox 18 (.alloc 72 [.nils, .nils])), (on (.store (some 2) (.t 18) (.t 95))), (mv 19 96)] (sq [(ox 97 (.load (some 2) (.t 18))), (mv 98 17), (mv 99 19), (ox 100 (b2 .eql 98 99)), (on (.store (some 2) (.t 10) (.t 97))), (mv 11 100)] .ret))) (sq [(ox 102 (b1 .eql 53 6)), (mv 101 102)] (cd 101 (.seq (sq [(ox 103 (.load (some 2) (.t 7))), (ox 104 (fc 75 [(.t 103)])), (mv 20 104)] (sq [(mv 105 20), (ox 106 (.len .sl (.t 105))), (ox 107 (b1 .gtr 106 0)), (mv 108 107), (ot 109 (.mov (.t 0)) 108), (ot 110 (fc 13 [(.t 109), (iv 3)]) 108), (ot 111 (b1 .gtr 110 0) 108), (ox 112 (.pick (.t 108) (.t 111) (.v (.bool false))))] (cd 112 (.ops [(mv 113 20), (mv 114 0), (mv 115 20), (ox 116 (.len .sl (.t 115))), (ox 117 (fc 13 [(.t 114), (.t 116)])), (ox 118 (.iaddr none 1 (.t 113) (.t 117))), (ox 119 (ld 118)), (mv 4 119)]) .skip))) (sq [(mv 120 1), (mv 121 4), (ox 122 (fc 36 [(.t 120), (.t 121)])), (mv 21 122)] (sq [(ox 124 (.load (some 2) (.t 7))), (mv 125 4), (ox 126 (fc 80 [(.t 124), (.t 125)])), (mv 123 126), (ox 127 (xt 123 0)), (ox 128 (xt 123 1)), (ox 22 (.alloc 72 [.nils, .nils])), (on (.store (some 2) (.t 22) (.t 127))), (mv 23 128)] (sq [(ox 129 (.load (some 2) (.t 22))), (mv 130 21), (mv 131 23), (ox 132 (b2 .eql 130 131)), (on (.store (some 2) (.t 10) (.t 129))), (mv 11 132)] .ret)))) (sq [(ox 134 (b1 .eql 53 7)), (mv 133 134)] (cd 133 (sq [(mv 135 1), (ox 136 (fc 14 [(.t 135)]))] (sq [(ox 137 (.load (some 2) (.t 7))), (ox 138 (fc 81 [(.t 137)])), (on (.store (some 2) (.t 10) (.t 138))), (ox 11 (mb true))] .ret)) (sq [(ox 140 (b1 .eql 53 8)), (mv 139 140)] (cd 139 (sq [(mv 141 0), (ox 142 (fc 13 [(.t 141), (iv 5)])), (ox 143 (b1 .sub 142 1)), (mv 24 143)] (sq [(mv 144 1), (mv 145 24), (ox 146 (fc 19 [(.t 144), (.t 145)]))] (sq [(ox 147 (.load (some 2) (.t 7))), (mv 148 24), (ox 149 (fc 42 [(.t 147), (.t 148)])), (on (.store (some 2) (.t 10) (.t 149))), (ox 11 (mb true))] .ret))) .skip)))))))))))) (sq [(mv 151 1), (mv 152 3), (ox 153 (fc 20 [(.t 151), (.t 152)])), (mv 150 153), (ox 154 (xt 150 0)), (ox 155 (xt 150 1)), (ox 25 (.alloc 34 [(.str []), (.int .i64 0), .nils, .nils, .nils, .nils, .nils, (.str []), (.int .i64 0), (.str []), (.str []), (.int .i64 0)])), (on (.store (some 12) (.t 25) (.t 154))), (mv 26 155)] (sq [(ox 157 (.load (some 2) (.t 7))), (mv 158 3), (ox 159 (fc 82 [(.t 157), (.t 158)])), (mv 156 159), (ox 160 (xt 156 0)), (ox 161 (xt 156 1)), (ox 27 (.alloc 34 [(.str []), (.int .i64 0), .nils, .nils, .nils, .nils, .nils, (.str []), (.int .i64 0), (.str []), (.str []), (.int .i64 0)])), (on (.store (some 12) (.t 27) (.t 160))), (mv 28 161)] (.seq (.draw [(ox 162 (.load (some 2) (.t 7))), (mv 163 26), (mv 164 28), (ox 165 (.binb false (.t 163) (.t 164))), (mv 166 165), (ot 167 (.load (some 12) (.t 25)) 166), (ot 168 (.load (some 12) (.t 27)) 166), (ot 169 (fc 21 [(.t 167), (.t 168)]) 166), (ox 170 (.pick (.t 166) (.t 169) (.v (.bool false)))), (on (.store (some 2) (.t 10) (.t 162))), (mv 11 170)] [0, 0, 0, 6, 14, 30, 30, 126, 254, 255, 1023]) .ret)))))), 171, [(.cell 10 (some 2)), (.tmp 11)]⟩
theorem c41_ok : compileF Tryz.prog [] 41 = some c41 := by kernel_rfl
def c11 : AFn := ⟨(sq [(ox 4 (mb false))] (sq [(mv 13 0), (ox 14 (.build [.nils, (.int .i64 0)] [(0, (1, (.t 13)))])), (ox 15 (.box 25 (.t 14))), (mv 5 15)] (sq [(ox 16 (fc 12 [])), (mv 6 16)] (.seq (sq [(mv 17 6), (ox 18 (.ext (.pnil false) [(.t 17)]))] (cd 18 (sq [(ox 4 (mb false))] .ret) .skip)) (sq [(ox 7 (.alloc 72 [.nils, .nils]))] (.seq (sq [(mv 19 5), (ox 20 (fc 13 [(.t 19), (iv 8)])), (mv 8 20)] (.block 0 (.loop (.seq (sq [(mv 21 8), (ox 22 (b1 .gtr 21 0))] (cd 22 .skip (.exit 0))) (.seq (.block 1 (sq [(mv 26 5), (mv 27 6), (ox 28 (.load (some 2) (.t 7))), (ox 29 (fc 41 [(.t 26), (.t 27), (.t 28), (.v (.str [47, 97])), (.v (.str [120]))])), (mv 25 29), (ox 30 (xt 25 0)), (ox 31 (xt 25 1)), (ox 9 (.alloc 72 [.nils, .nils])), (on (.store (some 2) (.t 9) (.t 30))), (mv 10 31)] (sq [(ox 32 (.load (some 2) (.t 9))), (on (.store (some 2) (.t 7) (.t 32)))] (sq [(mv 33 10), (ox 34 (.un .not (.t 33)))] (cd 34 (sq [(ox 4 (mb false))] .ret) .skip))))) (.ops [(mv 23 8), (ox 24 (b1 .sub 23 1)), (mv 8 24)])))))) (sq [(mv 35 6), (ox 36 (fc 34 [(.t 35)])), (mv 11 36)] (.seq (sq [(mv 37 11), (ox 38 (.ext (.pnil false) [(.t 37)]))] (cd 38 (sq [(ox 4 (mb false))] .ret) .skip)) (.seq (sq [(mv 39 5), (ox 40 (fc 13 [(.t 39), (iv 5)])), (mv 12 40)] (.block 2 (.loop (.seq (sq [(mv 41 12), (ox 42 (b1 .gtr 41 0))] (cd 42 .skip (.exit 2))) (.seq (.block 3 (sq [(mv 45 6), (mv 46 5), (mv 47 5), (ox 48 (fc 15 [(.t 47)])), (mv 49 5), (ox 50 (fc 13 [(.t 49), (iv 9)])), (ox 51 (.bin .add (iv 1) (.t 50))), (ox 52 (fc 17 [(.t 46), (.t 48), (.t 51)])), (ox 53 (fc 18 [(.t 45), (.t 52)]))] (.ops [(mv 54 6), (ox 55 (fc 14 [(.t 54)]))]))) (.ops [(mv 43 12), (ox 44 (b1 .sub 43 1)), (mv 12 44)])))))) (.seq (sq [(mv 56 11), (ox 57 (.load (some 2) (.t 7))), (ox 58 (fc 40 [(.t 56), (.t 57)])), (ox 59 (.un .not (.t 58)))] (cd 59 (sq [(ox 4 (mb false))] .ret) .skip)) (sq [(mv 60 11), (mv 61 1), (ox 62 (fc 19 [(.t 60), (.t 61)]))] (sq [(mv 63 11), (ox 64 (.load (some 2) (.t 7))), (mv 65 1), (ox 66 (fc 42 [(.t 64), (.t 65)])), (ox 67 (fc 40 [(.t 63), (.t 66)])), (mv 68 67), (ot 69 (fc 22 []) 68), (ox 70 (.pick (.t 68) (.t 69) (.v (.bool false)))), (mv 4 70)] .ret)))))))))))), 71, [(.tmp 4)]⟩
theorem c11_ok : compileF Tryz.prog [] 11 = some c11 := by kernel_rfl
end Go.Ab
namespace Go.Ab
open Go Go.Proofs
def spR (t : List Int) (k : Nat) (av : AV) (H : List AObj) : Prop := ∃ r k', av = .agg (rRow r) ∧ H = [tapeO t k'] ∧ Few r ∧ k' ≤ k + 30
def rBox (r : Rcd) (a b c : AV) : AObj := .box 34 [.str r.path, .int .i64 r.index, a, b, c, .imm (r.run.map sRow), .imm (r.load.map sRow), .str r.name, .int .i64 r.prio, .str r.owner, .str r.group, .int .i64 r.mode]
def tagT (j : Nat) : List UInt8 := [116, UInt8.ofNat (97 + j)]
def tagsT (i : Nat) : List (List UInt8) := (List.range i).map tagT
theorem tagsT_succ (i : Nat) : tagsT (i + 1) = tagsT i ++ [tagT i] := by simp [tagsT, List.range_succ]
theorem tagsT_len (i : Nat) : (tagsT i).length = i := by simp [tagsT]
theorem unb_two {n m : Nat} (h : n < 256) (h' : m < 256) : unb [[AV.int .u8 (n : Int)], [AV.int .u8 (m : Int)]] = some [UInt8.ofNat n, UInt8.ofNat m] := by
  rw [ofNat_row h, ofNat_row h']; exact unb_map [UInt8.ofNat n, UInt8.ofNat m]
def sp0Sx : List (List UInt8) := [[], [47], [97], [47, 97, 47], [47, 97, 47, 47, 98], [47, 46, 46], [47, 97, 32, 98], [47, 49, 47, 50, 47, 51, 47, 52, 47, 53, 47, 54, 47, 55, 47, 56]]
theorem sp0Sx_ok : ∀ x ∈ sp0Sx, x.length ≤ 20 := by decide
def sp2Sx : List (List UInt8) := [[65], [90, 90], [97], [49, 65], [], [83, 85, 66, 83, 89, 83, 84, 69, 77]]
theorem sp2Sx_ok : ∀ x ∈ sp2Sx, x.length ≤ 20 := by decide
def sp2Sy : List (List UInt8) := [[49], [10], [127], [111, 107]]
theorem sp2Sy_ok : ∀ x ∈ sp2Sy, x.length ≤ 20 := by decide
def sp3Sx : List (List UInt8) := [[97], [122, 122], [], [122, 32, 122], [117, 97, 99, 99, 101, 115, 115], [46, 46]]
theorem sp3Sx_ok : ∀ x ∈ sp3Sx, x.length ≤ 20 := by decide
def sp4Sx : List (List UInt8) := [[97], [122, 122], [], [47, 122], [122, 47, 47, 122], [122, 122, 47], [122, 47, 46, 46], [122, 122, 47, 97, 35, 98]]
theorem sp4Sx_ok : ∀ x ∈ sp4Sx, x.length ≤ 20 := by decide
def sp5Sx : List (List UInt8) := [[], [120], [9], [114, 117, 110, 32, 122]]
theorem sp5Sx_ok : ∀ x ∈ sp5Sx, x.length ≤ 20 := by decide
def sp6Sx : List (List UInt8) := [[], [120], [122], [97], [0]]
theorem sp6Sx_ok : ∀ x ∈ sp6Sx, x.length ≤ 20 := by decide
def sp7Sx : List (List UInt8) := [[97, 58, 98], [97, 33, 98], [49, 50, 51, 52, 53, 54, 55, 56, 57, 48, 49, 50, 51, 52, 53, 54], [49, 50, 51, 52, 53, 54, 55, 56, 57, 48, 49, 50, 51, 52, 53], [46, 46], [120]]
theorem sp7Sx_ok : ∀ x ∈ sp7Sx, x.length ≤ 20 := by decide
def sp9Sx : List (List UInt8) := [[], [97, 32, 98], [120], [46, 46]]
theorem sp9Sx_ok : ∀ x ∈ sp9Sx, x.length ≤ 20 := by decide
def sp10Sx : List (List UInt8) := [[], [10], [121]]
theorem sp10Sx_ok : ∀ x ∈ sp10Sx, x.length ≤ 20 := by decide
set_option maxRecDepth 20000 in
set_option maxHeartbeats 8000000 in
theorem spoilt_c (t : List Int) (k : Nat) (r : Rcd) (hk : k < 800000000) (hr : Small r) : ACallsR Tryz.prog 77 [.ptr 0 0, .agg (rRow r)] [tapeO t k] (spR t k) := by
  refine acalls_EA (spR t k) 0 c77_ok ?_
  unfold c77
  have z1 := hr.props; have z2 := hr.tags; have z3 := hr.links; have z4 := hr.runs; have z5 := hr.loads; have z6 := hr.path
  have few := hr.few
  refine awp_cut ⟨tmps 225 [(0, .ptr 0 0), (3, .ptr 1 0), (4, .ptr 2 0)], [tapeO t k, .box 34 (rRow r), .box 34 [.str [], .int .i64 0, .nils, .nils, .nils, .nils, .nils, .str [], .int .i64 0, .str [], .str [], .int .i64 0]]⟩ (awp_of ?_)
    (awp_cut ⟨tmps 225 [(0, .ptr 0 0), (3, .ptr 1 0), (4, .ptr 2 0)], [tapeO t k, rBox r (.own 3 r.props.length) (.imm (r.tags.map sRow)) (.imm (r.links.map sRow)), .box 34 [.str [], .int .i64 0, .nils, .nils, .nils, .nils, .nils, .str [], .int .i64 0, .str [], .str [], .int .i64 0], .reg 93 2 (r.props.map aRow)]⟩ (awp_of ?_)
    (awp_cut ⟨tmps 225 [(0, .ptr 0 0), (3, .ptr 1 0), (4, .ptr 2 0)], [tapeO t k, rBox r (.own 3 r.props.length) (.own 4 r.tags.length) (.imm (r.links.map sRow)), .box 34 [.str [], .int .i64 0, .nils, .nils, .nils, .nils, .nils, .str [], .int .i64 0, .str [], .str [], .int .i64 0], .reg 93 2 (r.props.map aRow), .reg 9 1 (r.tags.map sRow)]⟩ (awp_of ?_)
    (awp_cut ⟨tmps 225 [(0, .ptr 0 0), (3, .ptr 1 0), (4, .ptr 2 0)], [tapeO t k, rBox r (.own 3 r.props.length) (.own 4 r.tags.length) (.own 5 r.links.length), .box 34 [.str [], .int .i64 0, .nils, .nils, .nils, .nils, .nils, .str [], .int .i64 0, .str [], .str [], .int .i64 0], .reg 93 2 (r.props.map aRow), .reg 9 1 (r.tags.map sRow), .reg 9 1 (r.links.map sRow)]⟩ (awp_of ?_) (awp_of ?_))))
  · unfold rRow
    simp +decide -dsimp -implicitDefEqProofs [go_sem]
    refine cutE_of (by simp) ?_
    simp +decide -dsimp -implicitDefEqProofs [go_sem, tapeO]
  · unfold rRow
    simp +decide -dsimp -implicitDefEqProofs [go_sem, maxLen]
    refine ⟨fun q x y h e => by subst e; rfl, ⟨by omega, by omega⟩, ?_⟩
    refine cutE_of (by simp) ?_
    simp +decide -dsimp -implicitDefEqProofs [go_sem, tapeO, rBox]
  · unfold rBox
    simp +decide -dsimp -implicitDefEqProofs [go_sem, maxLen]
    refine ⟨⟨by omega, by omega⟩, ?_⟩
    refine cutE_of (by simp) ?_
    simp +decide -dsimp -implicitDefEqProofs [go_sem, tapeO]
  · unfold rBox
    simp +decide -dsimp -implicitDefEqProofs [go_sem, maxLen]
    refine ⟨⟨by omega, by omega⟩, ?_⟩
    refine cutE_of (by simp) ?_
    simp +decide -dsimp -implicitDefEqProofs [go_sem, tapeO]
  have o1 := Next_c t k 14 (by omega) (by omega)
  have b1 := fold_bd (tapeV t k) 14 (by omega)
  generalize fold (tapeV t k) 14 = v at o1 b1
  have fr : ∀ {a b : AV} {c d : AV → Prop}, True := trivial
  unfold rBox
  simp +decide -dsimp -implicitDefEqProofs [go_sem]
  refine callE_frame [0] o1 rfl rfl (by simp) rfl (by simp +decide -dsimp -implicitDefEqProofs [go_sem, tapeO_ren]) ?_
  simp +decide -dsimp -implicitDefEqProofs [go_sem, tapeO_ren]
  by_cases h0 : v = 0
  · rw [if_pos h0]
    have ox := One_c t (k + 1) sp0Sx (by omega) (by decide) (by decide)
    have mx := sp0Sx_ok _ (oneS_mem (ss := sp0Sx) (tapeV t (k + 1)) (by decide))
    generalize oneS sp0Sx (tapeV t (k + 1)) = x at ox mx
    unfold strsV at ox
    refine callE_frame [0] ox rfl rfl (by simp) rfl (by simp +decide -dsimp -implicitDefEqProofs [go_sem, tapeO_ren]) ?_
    simp +decide -dsimp -implicitDefEqProofs [go_sem, tapeO_ren]
    refine end_of (.agg (rRow { r with path := x })) [tapeO t (k + 1 + 1)] ⟨_, _, rfl, rfl, ⟨by show x.length < _; omega, few.tags, few.props, few.vals, few.links, few.link, few.runs, few.rn, few.loads, few.ld⟩, by omega⟩ rfl ?_
    simp +decide -dsimp -implicitDefEqProofs [go_sem, tapeO, rRow, sRow, aRow]
  rw [if_neg h0]
  by_cases h1 : v = 1
  · rw [if_pos h1]
    have o2 := Next_c t (k + 1) 4 (by omega) (by omega)
    have b2 := fold_bd (tapeV t (k + 1)) 4 (by omega)
    generalize fold (tapeV t (k + 1)) 4 = y at o2 b2
    refine callE_frame [0] o2 rfl rfl (by simp) rfl (by simp +decide -dsimp -implicitDefEqProofs [go_sem, tapeO_ren]) ?_
    rcases (by omega : y = 0 ∨ y = 1 ∨ y = 2 ∨ y = 3) with rfl | rfl | rfl | rfl
    · simp +decide -dsimp -implicitDefEqProofs [go_sem, tapeO_ren]
      refine end_of (.agg (rRow { r with index := 0 })) [tapeO t (k + 1 + 1)] ⟨_, _, rfl, rfl, ⟨few.path, few.tags, few.props, few.vals, few.links, few.link, few.runs, few.rn, few.loads, few.ld⟩, by omega⟩ rfl ?_
      simp +decide -dsimp -implicitDefEqProofs [go_sem, tapeO, rRow, sRow, aRow]
    · simp +decide -dsimp -implicitDefEqProofs [go_sem, tapeO_ren]
      refine end_of (.agg (rRow { r with index := -1 })) [tapeO t (k + 1 + 1)] ⟨_, _, rfl, rfl, ⟨few.path, few.tags, few.props, few.vals, few.links, few.link, few.runs, few.rn, few.loads, few.ld⟩, by omega⟩ rfl ?_
      simp +decide -dsimp -implicitDefEqProofs [go_sem, tapeO, rRow, sRow, aRow]
    · simp +decide -dsimp -implicitDefEqProofs [go_sem, tapeO_ren]
      refine end_of (.agg (rRow { r with index := 1073741824 })) [tapeO t (k + 1 + 1)] ⟨_, _, rfl, rfl, ⟨few.path, few.tags, few.props, few.vals, few.links, few.link, few.runs, few.rn, few.loads, few.ld⟩, by omega⟩ rfl ?_
      simp +decide -dsimp -implicitDefEqProofs [go_sem, tapeO, rRow, sRow, aRow]
    · simp +decide -dsimp -implicitDefEqProofs [go_sem, tapeO_ren]
      refine end_of (.agg (rRow { r with index := 1073741825 })) [tapeO t (k + 1 + 1)] ⟨_, _, rfl, rfl, ⟨few.path, few.tags, few.props, few.vals, few.links, few.link, few.runs, few.rn, few.loads, few.ld⟩, by omega⟩ rfl ?_
      simp +decide -dsimp -implicitDefEqProofs [go_sem, tapeO, rRow, sRow, aRow]
  rw [if_neg h1]
  by_cases h2 : v = 2
  · rw [if_pos h2]
    have ox := One_c t (k + 1) sp2Sx (by omega) (by decide) (by decide)
    have mx := sp2Sx_ok _ (oneS_mem (ss := sp2Sx) (tapeV t (k + 1)) (by decide))
    generalize oneS sp2Sx (tapeV t (k + 1)) = x at ox mx
    unfold strsV at ox
    refine callDE_frame [0] ox rfl rfl (by simp) rfl (by simp +decide -dsimp -implicitDefEqProofs [go_sem, tapeO_ren]) ?_
    simp +decide -dsimp -implicitDefEqProofs [go_sem, tapeO_ren]
    have oy := One_c t (k + 1 + 1) sp2Sy (by omega) (by decide) (by decide)
    have my := sp2Sy_ok _ (oneS_mem (ss := sp2Sy) (tapeV t (k + 1 + 1)) (by decide))
    generalize oneS sp2Sy (tapeV t (k + 1 + 1)) = y at oy my
    unfold strsV at oy
    refine callDE_frame [0] oy rfl rfl (by simp) rfl (by simp +decide -dsimp -implicitDefEqProofs [go_sem, tapeO_ren]) ?_
    simp +decide -dsimp -implicitDefEqProofs [go_sem, tapeO_ren, maxLen]
    refine ⟨⟨by omega, by omega⟩, ?_⟩
    refine end_of (.agg (rRow { r with props := r.props ++ [(x, y)] })) [tapeO t (k + 1 + 1 + 1)] ⟨_, _, rfl, rfl, ⟨few.path, few.tags, by show (r.props ++ _).length < _; simp; omega, fun p hp => by
      rcases List.mem_append.1 hp with hp | hp
      · exact few.vals p hp
      · rw [List.mem_singleton.1 hp]; show y.length < _; omega, few.links, few.link, few.runs, few.rn, few.loads, few.ld⟩, by omega⟩ rfl ?_
    simp +decide -dsimp -implicitDefEqProofs [go_sem, tapeO, rRow, sRow, aRow]
  rw [if_neg h2]
  by_cases h3 : v = 3
  · rw [if_pos h3]
    have ox := One_c t (k + 1) sp3Sx (by omega) (by decide) (by decide)
    have mx := sp3Sx_ok _ (oneS_mem (ss := sp3Sx) (tapeV t (k + 1)) (by decide))
    generalize oneS sp3Sx (tapeV t (k + 1)) = x at ox mx
    unfold strsV at ox
    refine callDE_frame [0] ox rfl rfl (by simp) rfl (by simp +decide -dsimp -implicitDefEqProofs [go_sem, tapeO_ren]) ?_
    simp +decide -dsimp -implicitDefEqProofs [go_sem, tapeO_ren, maxLen]
    refine ⟨⟨by omega, by omega⟩, ?_⟩
    refine end_of (.agg (rRow { r with tags := r.tags ++ [x] })) [tapeO t (k + 1 + 1)] ⟨_, _, rfl, rfl, ⟨few.path, by show (r.tags ++ _).length < _; simp; omega, few.props, few.vals, few.links, few.link, few.runs, few.rn, few.loads, few.ld⟩, by omega⟩ rfl ?_
    simp +decide -dsimp -implicitDefEqProofs [go_sem, tapeO, rRow, sRow, aRow]
  rw [if_neg h3]
  by_cases h4 : v = 4
  · rw [if_pos h4]
    have ox := One_c t (k + 1) sp4Sx (by omega) (by decide) (by decide)
    have mx := sp4Sx_ok _ (oneS_mem (ss := sp4Sx) (tapeV t (k + 1)) (by decide))
    generalize oneS sp4Sx (tapeV t (k + 1)) = x at ox mx
    unfold strsV at ox
    refine callDE_frame [0] ox rfl rfl (by simp) rfl (by simp +decide -dsimp -implicitDefEqProofs [go_sem, tapeO_ren]) ?_
    simp +decide -dsimp -implicitDefEqProofs [go_sem, tapeO_ren, maxLen]
    refine ⟨⟨by omega, by omega⟩, ?_⟩
    refine end_of (.agg (rRow { r with links := r.links ++ [x] })) [tapeO t (k + 1 + 1)] ⟨_, _, rfl, rfl, ⟨few.path, few.tags, few.props, few.vals, by show (r.links ++ _).length < _; simp; omega, fun p hp => by
      rcases List.mem_append.1 hp with hp | hp
      · exact few.link p hp
      · rw [List.mem_singleton.1 hp]; show x.length < _; omega, few.runs, few.rn, few.loads, few.ld⟩, by omega⟩ rfl ?_
    simp +decide -dsimp -implicitDefEqProofs [go_sem, tapeO, rRow, sRow, aRow]
  rw [if_neg h4]
  by_cases h5 : v = 5
  · rw [if_pos h5]
    simp +decide -dsimp -implicitDefEqProofs [go_sem, maxLen]
    refine ⟨⟨by omega, by omega⟩, ?_⟩
    have ox := One_c t (k + 1) sp5Sx (by omega) (by decide) (by decide)
    have mx := sp5Sx_ok _ (oneS_mem (ss := sp5Sx) (tapeV t (k + 1)) (by decide))
    generalize oneS sp5Sx (tapeV t (k + 1)) = x at ox mx
    unfold strsV at ox
    refine callE_frame [0] ox rfl rfl (by simp) rfl (by simp +decide -dsimp -implicitDefEqProofs [go_sem, tapeO_ren]) ?_
    simp +decide -dsimp -implicitDefEqProofs [go_sem, tapeO_ren, maxLen]
    refine ⟨⟨by omega, by omega⟩, ?_⟩
    refine end_of (.agg (rRow { r with run := r.run ++ [x] })) [tapeO t (k + 1 + 1)] ⟨_, _, rfl, rfl, ⟨few.path, few.tags, few.props, few.vals, few.links, few.link, by show (r.run ++ _).length < _; simp; omega, fun p hp => by
      rcases List.mem_append.1 hp with hp | hp
      · exact few.rn p hp
      · rw [List.mem_singleton.1 hp]; show x.length < _; omega, few.loads, few.ld⟩, by omega⟩ rfl ?_
    simp +decide -dsimp -implicitDefEqProofs [go_sem, tapeO, rRow, sRow, aRow]
  rw [if_neg h5]
  by_cases h6 : v = 6
  · rw [if_pos h6]
    simp +decide -dsimp -implicitDefEqProofs [go_sem, maxLen]
    refine ⟨⟨by omega, by omega⟩, ?_⟩
    have ox := One_c t (k + 1) sp6Sx (by omega) (by decide) (by decide)
    have mx := sp6Sx_ok _ (oneS_mem (ss := sp6Sx) (tapeV t (k + 1)) (by decide))
    generalize oneS sp6Sx (tapeV t (k + 1)) = x at ox mx
    unfold strsV at ox
    refine callE_frame [0] ox rfl rfl (by simp) rfl (by simp +decide -dsimp -implicitDefEqProofs [go_sem, tapeO_ren]) ?_
    simp +decide -dsimp -implicitDefEqProofs [go_sem, tapeO_ren, maxLen]
    refine ⟨⟨by omega, by omega⟩, ?_⟩
    refine end_of (.agg (rRow { r with load := r.load ++ [x] })) [tapeO t (k + 1 + 1)] ⟨_, _, rfl, rfl, ⟨few.path, few.tags, few.props, few.vals, few.links, few.link, few.runs, few.rn, by show (r.load ++ _).length < _; simp; omega, fun p hp => by
      rcases List.mem_append.1 hp with hp | hp
      · exact few.ld p hp
      · rw [List.mem_singleton.1 hp]; show x.length < _; omega⟩, by omega⟩ rfl ?_
    simp +decide -dsimp -implicitDefEqProofs [go_sem, tapeO, rRow, sRow, aRow]
  rw [if_neg h6]
  by_cases h7 : v = 7
  · rw [if_pos h7]
    have ox := One_c t (k + 1) sp7Sx (by omega) (by decide) (by decide)
    have mx := sp7Sx_ok _ (oneS_mem (ss := sp7Sx) (tapeV t (k + 1)) (by decide))
    generalize oneS sp7Sx (tapeV t (k + 1)) = x at ox mx
    unfold strsV at ox
    refine callE_frame [0] ox rfl rfl (by simp) rfl (by simp +decide -dsimp -implicitDefEqProofs [go_sem, tapeO_ren]) ?_
    simp +decide -dsimp -implicitDefEqProofs [go_sem, tapeO_ren]
    refine end_of (.agg (rRow { r with name := x })) [tapeO t (k + 1 + 1)] ⟨_, _, rfl, rfl, ⟨few.path, few.tags, few.props, few.vals, few.links, few.link, few.runs, few.rn, few.loads, few.ld⟩, by omega⟩ rfl ?_
    simp +decide -dsimp -implicitDefEqProofs [go_sem, tapeO, rRow, sRow, aRow]
  rw [if_neg h7]
  by_cases h8 : v = 8
  · rw [if_pos h8]
    have o2 := Next_c t (k + 1) 5 (by omega) (by omega)
    have b2 := fold_bd (tapeV t (k + 1)) 5 (by omega)
    generalize fold (tapeV t (k + 1)) 5 = y at o2 b2
    refine callE_frame [0] o2 rfl rfl (by simp) rfl (by simp +decide -dsimp -implicitDefEqProofs [go_sem, tapeO_ren]) ?_
    rcases (by omega : y = 0 ∨ y = 1 ∨ y = 2 ∨ y = 3 ∨ y = 4) with rfl | rfl | rfl | rfl | rfl
    · simp +decide -dsimp -implicitDefEqProofs [go_sem, tapeO_ren]
      refine end_of (.agg (rRow { r with prio := 1000 })) [tapeO t (k + 1 + 1)] ⟨_, _, rfl, rfl, ⟨few.path, few.tags, few.props, few.vals, few.links, few.link, few.runs, few.rn, few.loads, few.ld⟩, by omega⟩ rfl ?_
      simp +decide -dsimp -implicitDefEqProofs [go_sem, tapeO, rRow, sRow, aRow]
    · simp +decide -dsimp -implicitDefEqProofs [go_sem, tapeO_ren]
      refine end_of (.agg (rRow { r with prio := 1001 })) [tapeO t (k + 1 + 1)] ⟨_, _, rfl, rfl, ⟨few.path, few.tags, few.props, few.vals, few.links, few.link, few.runs, few.rn, few.loads, few.ld⟩, by omega⟩ rfl ?_
      simp +decide -dsimp -implicitDefEqProofs [go_sem, tapeO, rRow, sRow, aRow]
    · simp +decide -dsimp -implicitDefEqProofs [go_sem, tapeO_ren]
      refine end_of (.agg (rRow { r with prio := -1000 })) [tapeO t (k + 1 + 1)] ⟨_, _, rfl, rfl, ⟨few.path, few.tags, few.props, few.vals, few.links, few.link, few.runs, few.rn, few.loads, few.ld⟩, by omega⟩ rfl ?_
      simp +decide -dsimp -implicitDefEqProofs [go_sem, tapeO, rRow, sRow, aRow]
    · simp +decide -dsimp -implicitDefEqProofs [go_sem, tapeO_ren]
      refine end_of (.agg (rRow { r with prio := -1001 })) [tapeO t (k + 1 + 1)] ⟨_, _, rfl, rfl, ⟨few.path, few.tags, few.props, few.vals, few.links, few.link, few.runs, few.rn, few.loads, few.ld⟩, by omega⟩ rfl ?_
      simp +decide -dsimp -implicitDefEqProofs [go_sem, tapeO, rRow, sRow, aRow]
    · simp +decide -dsimp -implicitDefEqProofs [go_sem, tapeO_ren]
      refine end_of (.agg (rRow { r with prio := 0 })) [tapeO t (k + 1 + 1)] ⟨_, _, rfl, rfl, ⟨few.path, few.tags, few.props, few.vals, few.links, few.link, few.runs, few.rn, few.loads, few.ld⟩, by omega⟩ rfl ?_
      simp +decide -dsimp -implicitDefEqProofs [go_sem, tapeO, rRow, sRow, aRow]
  rw [if_neg h8]
  by_cases h9 : v = 9
  · rw [if_pos h9]
    have ox := One_c t (k + 1) sp9Sx (by omega) (by decide) (by decide)
    have mx := sp9Sx_ok _ (oneS_mem (ss := sp9Sx) (tapeV t (k + 1)) (by decide))
    generalize oneS sp9Sx (tapeV t (k + 1)) = x at ox mx
    unfold strsV at ox
    refine callE_frame [0] ox rfl rfl (by simp) rfl (by simp +decide -dsimp -implicitDefEqProofs [go_sem, tapeO_ren]) ?_
    simp +decide -dsimp -implicitDefEqProofs [go_sem, tapeO_ren]
    refine end_of (.agg (rRow { r with owner := x })) [tapeO t (k + 1 + 1)] ⟨_, _, rfl, rfl, ⟨few.path, few.tags, few.props, few.vals, few.links, few.link, few.runs, few.rn, few.loads, few.ld⟩, by omega⟩ rfl ?_
    simp +decide -dsimp -implicitDefEqProofs [go_sem, tapeO, rRow, sRow, aRow]
  rw [if_neg h9]
  by_cases h10 : v = 10
  · rw [if_pos h10]
    have ox := One_c t (k + 1) sp10Sx (by omega) (by decide) (by decide)
    have mx := sp10Sx_ok _ (oneS_mem (ss := sp10Sx) (tapeV t (k + 1)) (by decide))
    generalize oneS sp10Sx (tapeV t (k + 1)) = x at ox mx
    unfold strsV at ox
    refine callE_frame [0] ox rfl rfl (by simp) rfl (by simp +decide -dsimp -implicitDefEqProofs [go_sem, tapeO_ren]) ?_
    simp +decide -dsimp -implicitDefEqProofs [go_sem, tapeO_ren]
    refine end_of (.agg (rRow { r with group := x })) [tapeO t (k + 1 + 1)] ⟨_, _, rfl, rfl, ⟨few.path, few.tags, few.props, few.vals, few.links, few.link, few.runs, few.rn, few.loads, few.ld⟩, by omega⟩ rfl ?_
    simp +decide -dsimp -implicitDefEqProofs [go_sem, tapeO, rRow, sRow, aRow]
  rw [if_neg h10]
  by_cases h11 : v = 11
  · rw [if_pos h11]
    have o2 := Next_c t (k + 1) 4 (by omega) (by omega)
    have b2 := fold_bd (tapeV t (k + 1)) 4 (by omega)
    generalize fold (tapeV t (k + 1)) 4 = y at o2 b2
    refine callE_frame [0] o2 rfl rfl (by simp) rfl (by simp +decide -dsimp -implicitDefEqProofs [go_sem, tapeO_ren]) ?_
    rcases (by omega : y = 0 ∨ y = 1 ∨ y = 2 ∨ y = 3) with rfl | rfl | rfl | rfl
    · simp +decide -dsimp -implicitDefEqProofs [go_sem, tapeO_ren]
      refine end_of (.agg (rRow { r with mode := 0 })) [tapeO t (k + 1 + 1)] ⟨_, _, rfl, rfl, ⟨few.path, few.tags, few.props, few.vals, few.links, few.link, few.runs, few.rn, few.loads, few.ld⟩, by omega⟩ rfl ?_
      simp +decide -dsimp -implicitDefEqProofs [go_sem, tapeO, rRow, sRow, aRow]
    · simp +decide -dsimp -implicitDefEqProofs [go_sem, tapeO_ren]
      refine end_of (.agg (rRow { r with mode := 4095 })) [tapeO t (k + 1 + 1)] ⟨_, _, rfl, rfl, ⟨few.path, few.tags, few.props, few.vals, few.links, few.link, few.runs, few.rn, few.loads, few.ld⟩, by omega⟩ rfl ?_
      simp +decide -dsimp -implicitDefEqProofs [go_sem, tapeO, rRow, sRow, aRow]
    · simp +decide -dsimp -implicitDefEqProofs [go_sem, tapeO_ren]
      refine end_of (.agg (rRow { r with mode := 4096 })) [tapeO t (k + 1 + 1)] ⟨_, _, rfl, rfl, ⟨few.path, few.tags, few.props, few.vals, few.links, few.link, few.runs, few.rn, few.loads, few.ld⟩, by omega⟩ rfl ?_
      simp +decide -dsimp -implicitDefEqProofs [go_sem, tapeO, rRow, sRow, aRow]
    · simp +decide -dsimp -implicitDefEqProofs [go_sem, tapeO_ren]
      refine end_of (.agg (rRow { r with mode := -1 })) [tapeO t (k + 1 + 1)] ⟨_, _, rfl, rfl, ⟨few.path, few.tags, few.props, few.vals, few.links, few.link, few.runs, few.rn, few.loads, few.ld⟩, by omega⟩ rfl ?_
      simp +decide -dsimp -implicitDefEqProofs [go_sem, tapeO, rRow, sRow, aRow]
  rw [if_neg h11]
  by_cases h12 : v = 12
  · rw [if_pos h12]
    have o2 := Next_c t (k + 1) 3 (by omega) (by omega)
    have b2 := fold_bd (tapeV t (k + 1)) 3 (by omega)
    generalize fold (tapeV t (k + 1)) 3 = f at o2 b2
    have w1 : IntKind.i64.wrap (f + 63) = f + 63 := w64 (by omega) (by omega)
    have w2 : IntKind.i64.wrap (f + 63 - (r.props.length : Int)) = f + 63 - r.props.length := w64 (by omega) (by omega)
    refine callDE_frame [0] o2 rfl rfl (by simp) rfl (by simp +decide -dsimp -implicitDefEqProofs [go_sem, tapeO_ren]) ?_
    simp +decide -dsimp -implicitDefEqProofs [go_sem, tapeO_ren, w1, w2]
    refine loop_of (S := Int × List (List UInt8 × List UInt8)) (fun s => ⟨tmps 225 [(0, .ptr 0 0), (3, .ptr 1 0), (4, .ptr 2 0), (5, .int .i64 s.1)], [tapeO t (k + 1 + 1), .box 34 [.str r.path, .int .i64 r.index, .own 3 s.2.length, .own 4 r.tags.length, .own 5 r.links.length, .imm (r.run.map sRow), .imm (r.load.map sRow), .str r.name, .int .i64 r.prio, .str r.owner, .str r.group, .int .i64 r.mode], .box 34 [.str [], .int .i64 0, .nils, .nils, .nils, .nils, .nils, .str [], .int .i64 0, .str [], .str [], .int .i64 0], .reg 93 2 (s.2.map aRow), .reg 9 1 (r.tags.map sRow), .reg 9 1 (r.links.map sRow)]⟩) (fun s => s.1.toNat)
      (fun s => s.1 ≤ 70 ∧ s.2.length + s.1.toNat ≤ 140 ∧ ∀ x ∈ s.2, x.2.length ≤ 256) (f + 63 - r.props.length, r.props) ⟨by show _ ≤ _; omega, by show r.props.length + (f + 63 - (r.props.length : Int)).toNat ≤ 140; omega, fun x hx => (hr.attr x hx).2⟩ (cut_of (by simp) ?_) ?_
    · simp +decide -dsimp -implicitDefEqProofs [go_sem, tapeO]
    rintro ⟨c, l⟩ ⟨hc, hl, hv⟩
    simp only at hc hl hv
    by_cases h : 0 < c
    · obtain ⟨m, rfl⟩ : ∃ m : Nat, c = m := ⟨c.toNat, by omega⟩
      have d1 : IntKind.i64.wrap ((m : Int) / 26) = (m : Int) / 26 := w64 (by omega) (by omega)
      have d1' : (m : Int).tdiv 26 = (m : Int) / 26 := Int.tdiv_eq_ediv_of_nonneg (by omega)
      have d2 : (m : Int).tmod 26 = (m : Int) % 26 := Int.tmod_eq_emod_of_nonneg (by omega)
      have d3 : IntKind.i64.wrap (65 + (m : Int) / 26) = 65 + (m : Int) / 26 := w64 (by omega) (by omega)
      have d4 : IntKind.i64.wrap (65 + (m : Int) % 26) = 65 + (m : Int) % 26 := w64 (by omega) (by omega)
      have d5 : IntKind.u8.wrap (65 + (m : Int) / 26) = 65 + (m : Int) / 26 := by rw [IntKind.wrap_u8]; omega
      have d6 : IntKind.u8.wrap (65 + (m : Int) % 26) = 65 + (m : Int) % 26 := by rw [IntKind.wrap_u8]; omega
      have d7 : IntKind.i64.wrap ((m : Int) - 1) = (m : Int) - 1 := w64 (by omega) (by omega)
      have hu : unb [[AV.int .u8 (65 + (m : Int) / 26)], [AV.int .u8 (65 + (m : Int) % 26)]] = some [UInt8.ofNat (65 + m / 26), UInt8.ofNat (65 + m % 26)] := by
        have := unb_two (n := 65 + m / 26) (m := 65 + m % 26) (by omega) (by omega)
        rwa [show ((65 + m / 26 : Nat) : Int) = 65 + (m : Int) / 26 by omega, show ((65 + m % 26 : Nat) : Int) = 65 + (m : Int) % 26 by omega] at this
      obtain ⟨nm, hnm⟩ : ∃ nm : List UInt8, nm = [UInt8.ofNat (65 + m / 26), UInt8.ofNat (65 + m % 26)] := ⟨_, rfl⟩
      rw [← hnm] at hu
      have hnl : nm.length = 2 := by rw [hnm]; rfl
      clear hnm
      have h' : 0 < m := by omega
      simp +decide -dsimp -implicitDefEqProofs [go_sem, h', d1, d1', d2, d3, d4, d5, d6, d7, hu, maxLen]
      refine ⟨by omega, ⟨by omega, by omega⟩, ?_⟩
      have eR : l.map aRow ++ [[AV.str (84 :: nm), AV.str [49]]] = (l ++ [(84 :: nm, [49])]).map aRow := by simp [aRow]
      rw [eR]
      refine next_of ((m : Int) - 1, l ++ [(84 :: nm, [49])]) ⟨by show _ ≤ _; omega, by show (l ++ _).length + Int.toNat _ ≤ _; simp; omega, fun x hx => ?_⟩ (by show Int.toNat _ < Int.toNat _; omega) (cut_of (by simp) ?_)
      · rcases List.mem_append.1 hx with hx | hx
        · exact hv x hx
        · rw [List.mem_singleton.1 hx]; simp
      simp +decide -dsimp -implicitDefEqProofs [go_sem, tapeO, aRow]
    have h' : ¬ (0 : Int) < c := h
    simp +decide -dsimp -implicitDefEqProofs [go_sem, h']
    obtain ⟨n0, hn0⟩ : ∃ n0, n0 = l.length := ⟨_, rfl⟩
    have hn1 : n0 ≤ 140 := by omega
    rw [← hn0]
    refine loop_of (S := Nat × List (List UInt8 × List UInt8)) (fun s => ⟨tmps 225 [(0, .ptr 0 0), (3, .ptr 1 0), (4, .ptr 2 0), (178, .int .i64 n0), (179, .int .i64 s.1)], [tapeO t (k + 1 + 1), .box 34 [.str r.path, .int .i64 r.index, .own 3 n0, .own 4 r.tags.length, .own 5 r.links.length, .imm (r.run.map sRow), .imm (r.load.map sRow), .str r.name, .int .i64 r.prio, .str r.owner, .str r.group, .int .i64 r.mode], .box 34 [.str [], .int .i64 0, .nils, .nils, .nils, .nils, .nils, .str [], .int .i64 0, .str [], .str [], .int .i64 0], .reg 93 2 (s.2.map aRow), .reg 9 1 (r.tags.map sRow), .reg 9 1 (r.links.map sRow)]⟩) (fun s => n0 - s.1)
      (fun s => s.1 ≤ n0 ∧ s.2.length = n0 ∧ ∀ x ∈ s.2, x.2.length ≤ 256) (0, l) ⟨by simp, hn0.symm, hv⟩ (cut_of (by simp) ?_) ?_
    · simp +decide -dsimp -implicitDefEqProofs [go_sem, tapeO, hn0]
    clear hn0 hl hv h h' hc
    rintro ⟨i, l⟩ ⟨hi, hl, hv⟩
    simp only at hi hl hv
    by_cases h : i < n0
    rotate_left
    · have e : i = n0 := by omega
      subst e
      simp +decide -dsimp -implicitDefEqProofs [go_sem]
      refine end_of (.agg (rRow { r with props := l })) [tapeO t (k + 1 + 1)] ⟨_, _, rfl, rfl, ⟨few.path, few.tags, by show l.length < _; omega, fun x hx => by have := hv x hx; omega, few.links, few.link, few.runs, few.rn, few.loads, few.ld⟩, by omega⟩ rfl ?_
      simp +decide -dsimp -implicitDefEqProofs [go_sem, tapeO, rRow, hl]
    have w1 : IntKind.i64.wrap ((i : Int) + 1) = i + 1 := w64 (by omega) (by omega)
    simp +decide -dsimp -implicitDefEqProofs [go_sem, h]
    refine loop_of (S := Nat × List (List UInt8 × List UInt8)) (fun s => ⟨tmps 225 [(0, .ptr 0 0), (3, .ptr 1 0), (4, .ptr 2 0), (7, .int .i64 s.1), (178, .int .i64 n0), (179, .int .i64 i)], [tapeO t (k + 1 + 1), .box 34 [.str r.path, .int .i64 r.index, .own 3 n0, .own 4 r.tags.length, .own 5 r.links.length, .imm (r.run.map sRow), .imm (r.load.map sRow), .str r.name, .int .i64 r.prio, .str r.owner, .str r.group, .int .i64 r.mode], .box 34 [.str [], .int .i64 0, .nils, .nils, .nils, .nils, .nils, .str [], .int .i64 0, .str [], .str [], .int .i64 0], .reg 93 2 (s.2.map aRow), .reg 9 1 (r.tags.map sRow), .reg 9 1 (r.links.map sRow)]⟩) (fun s => s.1)
      (fun s => s.1 ≤ i ∧ s.2.length = n0 ∧ ∀ x ∈ s.2, x.2.length ≤ 256) (i, l) ⟨by simp, hl, hv⟩ (cut_of (by simp) ?_) ?_
    · simp +decide -dsimp -implicitDefEqProofs [go_sem, tapeO]
    clear hl hv
    rintro ⟨j, l⟩ ⟨hj, hl, hv⟩
    simp only at hj hl hv
    by_cases hj0 : j = 0
    · subst hj0
      simp +decide -dsimp -implicitDefEqProofs [go_sem, w1]
      refine next_of (i + 1, l) ⟨by show i + 1 ≤ n0; omega, hl, hv⟩ (by show n0 - (i + 1) < n0 - i; omega) (cut_of (by simp) ?_)
      simp +decide -dsimp -implicitDefEqProofs [go_sem, tapeO]
    obtain ⟨q, rfl⟩ : ∃ q, j = q + 1 := ⟨j - 1, by omega⟩
    have p1 : (0 : Int) < (q : Int) + 1 := by omega
    have p2 : (0 : Int) ≤ (q : Int) + 1 := by omega
    have p3 : ((q : Int) + 1).toNat = q + 1 := by omega
    have p4 : IntKind.i64.wrap (q : Int) = q := w64 (by omega) (by omega)
    have p5 : q + 1 < n0 := by omega
    have p6 : q < n0 := by omega
    have p7 : q + 1 < l.length := by omega
    have p8 : q < l.length := by omega
    by_cases hlt : Op.bytesLess l[q + 1].1 l[q].1 = true
    · simp +decide -dsimp -implicitDefEqProofs [go_sem, p1, p2, p3, p4, p5, p6, hl, hlt]
      have eR : ((l.map aRow).set (q + 1) (aRow l[q] ++ List.drop 2 (aRow l[q + 1]))).set q (aRow l[q + 1] ++ List.drop 2 (aRow l[q])) = ((l.set (q + 1) l[q]).set q l[q + 1]).map aRow := by
        have e1 : ∀ x, List.drop 2 (aRow x) = [] := fun x => rfl
        rw [e1, e1, List.append_nil, List.append_nil, List.map_set, List.map_set]
      rw [eR]
      refine next_of (q, (l.set (q + 1) l[q]).set q l[q + 1]) ⟨by show q ≤ i; omega, by simp [hl], fun x hx => ?_⟩ (by show q < q + 1; omega) (cut_of (by simp) ?_)
      · rcases List.mem_or_eq_of_mem_set hx with hx | rfl
        · rcases List.mem_or_eq_of_mem_set hx with hx | rfl
          · exact hv x hx
          · exact hv _ (List.getElem_mem _)
        · exact hv _ (List.getElem_mem _)
      simp +decide -dsimp -implicitDefEqProofs [go_sem, tapeO, -List.map_set]
    · simp +decide -dsimp -implicitDefEqProofs [go_sem, p1, p2, p3, p4, p5, p6, hl, hlt, w1]
      refine next_of (i + 1, l) ⟨by show i + 1 ≤ n0; omega, hl, hv⟩ (by show n0 - (i + 1) < n0 - i; omega) (cut_of (by simp) ?_)
      simp +decide -dsimp -implicitDefEqProofs [go_sem, tapeO]
  rw [if_neg h12]
  refine loop_of (S := Nat × Nat) (fun s => ⟨tmps 225 [(0, .ptr 0 0), (3, .ptr 1 0), (4, .ptr 2 0), (8, .int .i64 s.1)], [tapeO t s.2, .box 34 [.str r.path, .int .i64 r.index, .own 3 r.props.length, .own 6 s.1, .own 5 r.links.length, .imm (r.run.map sRow), .imm (r.load.map sRow), .str r.name, .int .i64 r.prio, .str r.owner, .str r.group, .int .i64 r.mode], .box 34 [.str [], .int .i64 0, .nils, .nils, .nils, .nils, .nils, .str [], .int .i64 0, .str [], .str [], .int .i64 0], .reg 93 2 (r.props.map aRow), .reg 9 1 (r.tags.map sRow), .reg 9 1 (r.links.map sRow), .reg 9 1 ((tagsT s.1).map sRow)]⟩) (fun s => 18 - s.1)
    (fun s => s.1 ≤ 17 ∧ s.2 ≤ k + 1 + s.1) (0, k + 1) (by simp) ((Wk.nilB 1 3 9 1 rfl rfl (by simp)).trans (cut_of (by simp) ?_)) ?_
  · simp +decide -dsimp -implicitDefEqProofs [go_sem, tapeO, tagsT]
  rintro ⟨i, kk⟩ ⟨hi, hkk⟩
  simp only at hi hkk
  have o2 := Next_c t kk 3 (by omega) (by omega)
  have b2 := fold_bd (tapeV t kk) 3 (by omega)
  generalize fold (tapeV t kk) 3 = f at o2 b2
  have w1 : IntKind.i64.wrap (15 + f) = 15 + f := w64 (by omega) (by omega)
  have w2 : IntKind.i64.wrap ((i : Int) + 1) = i + 1 := w64 (by omega) (by omega)
  have w3 : IntKind.i64.wrap (97 + (i : Int)) = 97 + i := w64 (by omega) (by omega)
  have w4 : IntKind.u8.wrap (97 + (i : Int)) = 97 + i := by rw [IntKind.wrap_u8]; omega
  have hu : unb [[AV.int .u8 (97 + (i : Int))]] = some [UInt8.ofNat (97 + i)] := by have := unb_one (n := 97 + i) (by omega); rwa [show ((97 + i : Nat) : Int) = 97 + (i : Int) by omega] at this
  have hl := tagsT_len i
  obtain ⟨ch, hch⟩ : ∃ ch, ch = UInt8.ofNat (97 + i) := ⟨_, rfl⟩
  rw [← hch] at hu
  simp +decide -dsimp -implicitDefEqProofs [go_sem]
  refine callE_frame [0] o2 rfl rfl (by simp) rfl (by simp +decide -dsimp -implicitDefEqProofs [go_sem, tapeO_ren]) ?_
  by_cases hc : (i : Int) < 15 + f
  · simp +decide -dsimp -implicitDefEqProofs [go_sem, tapeO_ren, w1, hc, w2, w3, w4, hu, hl, maxLen]
    refine ⟨⟨by omega, by omega⟩, ?_⟩
    have eR : (tagsT i).map sRow ++ [[AV.str [116, ch]]] = (tagsT (i + 1)).map sRow := by rw [tagsT_succ, hch]; simp [sRow, tagT]
    rw [eR]
    refine next_of (i + 1, kk + 1) ⟨by show i + 1 ≤ 17; omega, by show kk + 1 ≤ _; omega⟩ (by show 18 - (i + 1) < 18 - i; omega) (cut_of (by simp) ?_)
    simp +decide -dsimp -implicitDefEqProofs [go_sem, tapeO]
  · simp +decide -dsimp -implicitDefEqProofs [go_sem, tapeO_ren, w1, hc]
    refine end_of (.agg (rRow { r with tags := tagsT i })) [tapeO t (kk + 1)] ⟨_, _, rfl, rfl, ⟨few.path, by show (tagsT i).length < _; omega, few.props, few.vals, few.links, few.link, few.runs, few.rn, few.loads, few.ld⟩, by omega⟩ rfl ?_
    simp +decide -dsimp -implicitDefEqProofs [go_sem, tapeO, rRow, hl]
end Go.Ab
namespace Go.Ab
open Go Go.Proofs Go.Sort
def bxW (d : TMap) (p : List Wr) : AObj := .box 72 [.imm ((entsL d).map eRow), .imm (p.map wrR)]
def dstepR (t : List Int) (k n : Nat) (dur seen : TMap) (pend : List Wr) (av : AV) (G : List AObj) : Prop :=
  ∃ k' dur' seen' pend', k' ≤ k + 300 ∧ Cpl dur' seen' pend' (n + 1) ∧ av = .tup [refV dur' pend', .bool true] ∧
    (G = [tapeO t k', dbB 2 3 4 pend'.length, mO dur', mO seen', .reg 88 1 (pend'.map wRow), .unborn, .unborn, bxW dur pend, bxW dur' pend'] ∨
     (pend' = [] ∧ G = [tapeO t k', dbB 5 3 6 0, mO dur, mO seen', .reg 88 1 (pend.map wRow), mO dur', .reg 88 1 [], bxW dur pend, bxW dur' []]) ∨
     (pend' = [] ∧ G = [tapeO t k', dbB 2 5 6 0, mO dur', mO seen, .reg 88 1 (pend.map wRow), mO seen', .reg 88 1 [], bxW dur pend, bxW dur' []]))
abbrev hW (t : List Int) (k : Nat) (dur seen : TMap) (pend : List Wr) (l : List AObj) : List AObj := tapeO t k :: dbB 2 3 4 pend.length :: mO dur :: mO seen :: .reg 88 1 (pend.map wRow) :: .unborn :: .unborn :: bxW dur pend :: .box 72 [.nils, .nils] :: l
abbrev tW (p : List UInt8) (l : List (Nat × AV)) : List AV := tmps 171 ((0, .ptr 0 0) :: (1, .ptr 1 0) :: (3, .str p) :: (7, .ptr 7 0) :: (10, .ptr 8 0) :: l)
theorem acalls_WAU {P : Program} {own : List Nat} {f : Nat} {fn : AFn} {xs : List AV} {H : List AObj} (n : Nat) (R : AV → List AObj → Prop) (hf : compileF P own f = some fn)
    (h : awp P H.length fn.body (retW H.length fn.res R) ⟨xs ++ List.replicate (fn.nt - xs.length) .junk, H ++ List.replicate n .unborn⟩) : ACallsR P f xs H R :=
  acalls_WA R hf (awp_wk (Wk.pushN n) h)
set_option maxRecDepth 20000 in
set_option maxHeartbeats 16000000 in
theorem step_c (t : List Int) (k n : Nat) (dur seen : TMap) (pend : List Wr) (path name : List UInt8) (hC : Cpl dur seen pend n) (hn : n ≤ 11) (hk : k < 500000000) (hpn : path.length ≤ 2000) (hnm : name.length ≤ 2000) :
    ACallsR Tryz.prog 41 [.ptr 0 0, .ptr 1 0, refV dur pend, .str path, .str name] [tapeO t k, dbB 2 3 4 pend.length, mO dur, mO seen, .reg 88 1 (pend.map wRow)] (dstepR t k n dur seen pend) := by
  have hec := closedLL_eRows
  have her := renLL_eRq
  have hrr := renLL_rRows
  have hrc := closedLL_rRows
  have hwR := wrR_cl
  have hsr := smK_renS
  have hwr := wRows_ren
  have hcl := wRows_cl
  have hsc : ∀ (m : TMap) (k : Nat) (a b : AV), (a, b) ∈ smK .str m → closed k a = true ∧ closed k b = true := fun m k => smK_clm (k := k) fun _ => rfl
  have hss : ∀ (k : Nat) (l : List (List UInt8)), closedLL k (l.map sRow) = true := fun k l => closedLL_map fun _ _ => rfl
  obtain ⟨l, hl, hll⟩ := all_ex hC.L.F.o
  have rA := hC.L.all_c hl
  have hL := hC.L.len
  have hln : l.length ≤ 100000 := by omega
  refine acalls_WAU 2 _ c41_ok ?_
  unfold c41
  unfold refV at rA ⊢
  refine awp_cut ⟨tW path [(4, .str name)], (hW t k dur seen pend [])⟩ (awp_of ?_) ?_
  · simp +decide -dsimp -implicitDefEqProofs [go_sem]
    refine cutE_of (by simp) ?_
    simp +decide -dsimp -implicitDefEqProofs [go_sem, tapeO, dbB, mO_def, bxW, hcl, hec, hwR]
    exact ⟨hsc _ _, hsc _ _⟩
  refine awp_cutX (S := Nat × List UInt8) (fun s => ⟨tW s.2 [(4, .str name)], (hW t s.1 dur seen pend [])⟩) (fun s => s.1 ≤ k + 20 ∧ s.2.length ≤ 2000) (awp_of ?_) ?_
  · have c0 := Next_c t k 2 (by omega) (by omega)
    have b0 := fold_bd (tapeV t k) 2 (by omega)
    generalize fold (tapeV t k) 2 = g at c0 b0
    simp +decide -dsimp -implicitDefEqProofs [go_sem]
    refine callE_frame [0] c0 rfl rfl (by simp) rfl (by simp +decide -dsimp -implicitDefEqProofs [go_sem, tapeO_ren]) ?_
    have hbx : bxW dur pend = .box 72 [.imm ((entsL dur).map eRow), .imm (pend.map wrR)] := rfl
    by_cases g0 : g = 0
    rotate_left
    · simp +decide -dsimp -implicitDefEqProofs [go_sem, tapeO_ren, g0]
      refine cutX_of (k + 1, path) ⟨by show k + 1 ≤ k + 20; omega, hpn⟩ (cut_of (by simp) ?_)
      simp +decide -dsimp -implicitDefEqProofs [go_sem, tapeO, dbB, mO_def, bxW, hcl, hec, hwR]
      exact ⟨hsc _ _, hsc _ _⟩
    subst g0
    simp +decide -dsimp -implicitDefEqProofs [go_sem, tapeO_ren]
    refine callE_frameR [0] (mPath_c t (k + 1) (by omega)) rfl (fun v G ⟨_, _, _, hG, _⟩ => by rw [hG]; rfl) (by simp) rfl (by simp +decide -dsimp -implicitDefEqProofs [go_sem, tapeO_ren]) ?_
    rintro _ _ ⟨p, k2, rfl, rfl, hpl, hk2⟩
    have hps := path_small hpl
    simp +decide -dsimp -implicitDefEqProofs [go_sem, tapeO_ren, hbx]
    refine callE_pure rA (by simp +decide -dsimp -implicitDefEqProofs [go_sem, hec, hwR]) (by simp +decide -dsimp -implicitDefEqProofs [go_sem, hrc]) ?_
    by_cases hl0 : 0 < l.length
    rotate_left
    · simp +decide -dsimp -implicitDefEqProofs [go_sem, hl0]
      refine cutX_of (k2, p) ⟨by show k2 ≤ k + 20; omega, by show p.length ≤ 2000; omega⟩ (cut_of (by simp) ?_)
      simp +decide -dsimp -implicitDefEqProofs [go_sem, tapeO, dbB, mO_def, bxW, hcl, hec, hwR]
      exact ⟨hsc _ _, hsc _ _⟩
    have c1 := Next_c t k2 2 (by omega) (by omega)
    have b1 := fold_bd (tapeV t k2) 2 (by omega)
    generalize fold (tapeV t k2) 2 = g1 at c1 b1
    simp +decide -dsimp -implicitDefEqProofs [go_sem, hl0]
    refine callE_frame [0] c1 rfl rfl (by simp) rfl (by simp +decide -dsimp -implicitDefEqProofs [go_sem, tapeO_ren]) ?_
    by_cases g1z : g1 = 0
    rotate_left
    · simp +decide -dsimp -implicitDefEqProofs [go_sem, tapeO_ren, g1z]
      refine cutX_of (k2 + 1, p) ⟨by show k2 + 1 ≤ k + 20; omega, by show p.length ≤ 2000; omega⟩ (cut_of (by simp) ?_)
      simp +decide -dsimp -implicitDefEqProofs [go_sem, tapeO, dbB, mO_def, bxW, hcl, hec, hwR]
      exact ⟨hsc _ _, hsc _ _⟩
    subst g1z
    have c2 := Next_c t (k2 + 1) l.length (by omega) (by omega)
    have b2 := fold_bd (tapeV t (k2 + 1)) l.length (by omega)
    obtain ⟨j, hj⟩ : ∃ j : Nat, fold (tapeV t (k2 + 1)) l.length = j := ⟨_, (Int.toNat_of_nonneg b2.1).symm⟩
    rw [hj] at c2 b2
    have hjl : j < l.length := by omega
    have hjp := path_small (sound_place ((hl.mem l[j]).1 (List.getElem_mem hjl)).1)
    simp +decide -dsimp -implicitDefEqProofs [go_sem, tapeO_ren]
    refine callE_frame [0] c2 rfl rfl (by simp) rfl (by simp +decide -dsimp -implicitDefEqProofs [go_sem, tapeO_ren]) ?_
    simp +decide -dsimp -implicitDefEqProofs [go_sem, tapeO_ren, hjl, rRow_len, ldK_path]
    refine cutX_of (k2 + 1 + 1, l[j].path) ⟨by show k2 + 1 + 1 ≤ k + 20; omega, by show l[j].path.length ≤ 2000; omega⟩ (cut_of (by simp) ?_)
    simp +decide -dsimp -implicitDefEqProofs [go_sem, tapeO, dbB, mO_def, bxW, hcl, hec, hwR]
    exact ⟨hsc _ _, hsc _ _⟩
  · rintro ⟨k1, p⟩ ⟨hk1, hp⟩
    simp only at hk1 hp ⊢
    have cg := Next_c t k1 10 (by omega) (by omega)
    have bg := fold_bd (tapeV t k1) 10 (by omega)
    generalize fold (tapeV t k1) 10 = g at cg bg
    have hbx : bxW dur pend = .box 72 [.imm ((entsL dur).map eRow), .imm (pend.map wrR)] := rfl
    have cG : ∃ r b, getR l p r b ∧ ACalls Tryz.prog 20 [.ptr 0 0, .str p] (dbO dur seen pend) (recV r b) (dbO dur seen pend) := by
      by_cases hpl : placeB p = true
      · obtain ⟨r, b, hr, c⟩ := Get_c dur seen pend p hpl (by omega) (by
          cases hg : getS (entL p) seen with
          | none => simp
          | some t => have := hC.L.F.tx _ _ hg; simp only [Option.getD_some]; omega)
        exact ⟨r, b, getR_of hl hr, c⟩
      · exact ⟨nil0, false, .inr ⟨fun x hx e => hpl (e ▸ sound_place ((hl.mem x).1 hx).1), rfl, rfl⟩, GetBad_c dur seen pend p hpl (by omega)⟩
    have hdr : ∀ m, renO [1, 2, 3, 4] (dbB 1 2 3 m) = dbB 2 3 4 m := fun _ => rfl
    have hgr : ∀ (is : List Nat) (l : List Wr), renO is (.reg 88 1 (l.map wRow)) = .reg 88 1 (l.map wRow) := fun is l => by simp only [renO, hwr]
    have hwRr : ∀ (is : List Nat) (l : List Wr), renLL is (l.map wrR) = l.map wrR := fun is l => by
      induction l with
      | nil => rfl
      | cons x r ih => simp [renLL, ih, wrR, renL, ren]
    refine awp_seq ?_
    refine awp_cut ⟨tW p [(4, .str name), (53, .int .i64 g)], (hW t (k1 + 1) dur seen pend [])⟩ (awp_of ?_) ?_
    · simp +decide -dsimp -implicitDefEqProofs [go_sem]
      refine callE_frame [0] cg rfl rfl (by simp) rfl (by simp +decide -dsimp -implicitDefEqProofs [go_sem, tapeO_ren]) ?_
      simp +decide -dsimp -implicitDefEqProofs [go_sem, tapeO_ren]
      refine cutE_of (by simp) ?_
      simp +decide -dsimp -implicitDefEqProofs [go_sem, tapeO, dbB, mO_def, bxW, hcl, hec, hwR]
      (repeat' apply And.intro) <;> first | exact hsc _ _ | exact hss _ _ | omega | rfl
    refine awp_block ?_
    refine awp_cut ⟨tmps 171 [(0, .ptr 0 0), (1, .ptr 1 0), (3, .str p), (4, .str name), (53, .int .i64 g), (54, .bool (decide (g ≤ 3))), (7, .ptr 7 0), (10, .ptr 8 0)], (hW t (k1 + 1) dur seen pend [])⟩ (awp_of ?_) ?_
    · have e3 : g = 0 ∨ g = 1 ∨ g = 2 ∨ g = 3 ∨ 3 < g := by omega
      rcases e3 with rfl | rfl | rfl | rfl | h3
      rotate_right
      · have n0 : ¬ g = 0 := by omega
        have n1 : ¬ g = 1 := by omega
        have n2 : ¬ g = 2 := by omega
        have n3 : ¬ g = 3 := by omega
        have n4 : ¬ g ≤ 3 := by omega
        simp +decide -dsimp -implicitDefEqProofs [go_sem, n0, n1, n2, n4]
        refine cutE_of (by simp) ?_
        simp +decide -dsimp -implicitDefEqProofs [go_sem, tapeO, dbB, mO_def, bxW, hcl, hec, hwR]
        (repeat' apply And.intro) <;> first | exact hsc _ _ | exact hss _ _ | omega | rfl
      all_goals
        simp +decide -dsimp -implicitDefEqProofs [go_sem]
        refine cutE_of (by simp) ?_
        simp +decide -dsimp -implicitDefEqProofs [go_sem, tapeO, dbB, mO_def, bxW, hcl, hec, hwR]
        (repeat' apply And.intro) <;> first | exact hsc _ _ | exact hss _ _ | omega | rfl
    refine awp_cond ?_
    by_cases h3 : g ≤ 3
    · rw [show (Opd.t 54).ev (tmps 171 [(0, .ptr 0 0), (1, .ptr 1 0), (3, .str p), (4, .str name), (53, .int .i64 g), (54, .bool (decide (g ≤ 3))), (7, .ptr 7 0), (10, .ptr 8 0)]) = .bool (decide (g ≤ 3)) from rfl, decide_eq_true h3]
      show awp _ _ _ _ _
      refine awp_cutX (S := Nat × Rcd) (fun s => ⟨tW p [(13, .ptr 9 0)], (hW t s.1 dur seen pend [.box 34 (rRow s.2)])⟩) (fun s => s.1 ≤ k + 200 ∧ soundB s.2 = true) (awp_of ?_) ?_
      · simp +decide -dsimp -implicitDefEqProofs [go_sem]
        refine callE_frameR [0] (mPath_c t (k1 + 1) (by omega)) rfl (fun v G ⟨_, _, _, hG, _⟩ => by rw [hG]; rfl) (by simp) rfl (by simp +decide -dsimp -implicitDefEqProofs [go_sem, tapeO_ren]) ?_
        rintro _ _ ⟨pp, k2, rfl, rfl, hpl, hk2⟩
        have c1 := Next_c t k2 9 (by omega) (by omega)
        have b1 := fold_bd (tapeV t k2) 9 (by omega)
        generalize fold (tapeV t k2) 9 = gi at c1 b1
        have wg : IntKind.i64.wrap (1 + gi) = 1 + gi := w64 (by omega) (by omega)
        simp +decide -dsimp -implicitDefEqProofs [go_sem, tapeO_ren]
        refine callE_frame [0] c1 rfl rfl (by simp) rfl (by simp +decide -dsimp -implicitDefEqProofs [go_sem, tapeO_ren]) ?_
        simp +decide -dsimp -implicitDefEqProofs [go_sem, tapeO_ren, wg]
        refine callE_frameR [0] (mRecord_c t (k2 + 1) pp (1 + gi) (by omega) hpl (by omega)) rfl (fun v G ⟨_, _, _, hG, _⟩ => by rw [hG]; rfl) (by simp) rfl (by simp +decide -dsimp -implicitDefEqProofs [go_sem, tapeO_ren]) ?_
        rintro _ _ ⟨r, k3, rfl, rfl, hS, hrp, _, hk3⟩
        simp +decide -dsimp -implicitDefEqProofs [go_sem, tapeO_ren, rRow_len, rRow_ren]
        refine cutX_of (k3, r) ⟨by show k3 ≤ k + 200; omega, hS⟩ (cut_of (by simp) ?_)
        simp +decide -dsimp -implicitDefEqProofs [go_sem, tapeO, dbB, mO_def, bxW, hcl, hec, hwR, cvT_row]
        (repeat' apply And.intro) <;> first | exact hsc _ _ | exact hss _ _ | omega | rfl
      rintro ⟨k2, r⟩ ⟨hk2, hS⟩
      simp only at hk2 hS ⊢
      refine awp_cutX (S := Nat × Rcd) (fun s => ⟨tW p [(13, .ptr 9 0)], (hW t s.1 dur seen pend [.box 34 (rRow s.2)])⟩) (fun s => s.1 ≤ k + 300 ∧ Few s.2) (awp_of ?_) ?_
      · have c1 := Next_c t k2 6 (by omega) (by omega)
        have b1 := fold_bd (tapeV t k2) 6 (by omega)
        generalize fold (tapeV t k2) 6 = gs at c1 b1
        simp +decide -dsimp -implicitDefEqProofs [go_sem]
        refine callE_frame [0] c1 rfl rfl (by simp) rfl (by simp +decide -dsimp -implicitDefEqProofs [go_sem, tapeO_ren]) ?_
        by_cases hz : gs = 0
        rotate_left
        · simp +decide -dsimp -implicitDefEqProofs [go_sem, tapeO_ren, hz]
          refine cutX_of (k2 + 1, r) ⟨by show k2 + 1 ≤ k + 300; omega, (small_of hS).few⟩ (cut_of (by simp) ?_)
          simp +decide -dsimp -implicitDefEqProofs [go_sem, tapeO, dbB, mO_def, bxW, hcl, hec, hwR, cvT_row]
          (repeat' apply And.intro) <;> first | exact hsc _ _ | exact hss _ _ | omega | rfl
        subst hz
        simp +decide -dsimp -implicitDefEqProofs [go_sem, tapeO_ren, rRow_len, rRow_take]
        refine callE_frameR [0] (spoilt_c t (k2 + 1) r (by omega) (small_of hS)) rfl (fun v G ⟨_, _, _, hG, _⟩ => by rw [hG]; rfl) (by simp) (by simp +decide -dsimp -implicitDefEqProofs [go_sem, rRow_ren]) (by simp +decide -dsimp -implicitDefEqProofs [go_sem, tapeO_ren]) ?_
        rintro _ _ ⟨r2, k3, rfl, rfl, hf, hk3⟩
        simp +decide -dsimp -implicitDefEqProofs [go_sem, tapeO_ren, rRow_len, rRow_ren]
        refine cutX_of (k3, r2) ⟨by show k3 ≤ k + 300; omega, hf⟩ (cut_of (by simp) ?_)
        simp +decide -dsimp -implicitDefEqProofs [go_sem, tapeO, dbB, mO_def, bxW, hcl, hec, hwR, cvT_row, rRow_drop]
        (repeat' apply And.intro) <;> first | exact hsc _ _ | exact hss _ _ | omega | rfl
      rintro ⟨k3, r2⟩ ⟨hk3, hf⟩
      simp only at hk3 hf ⊢
      clear hS
      have hcn : cntS seen < 512 := by have h1 := cnt_le seen; have h2 := hC.L.F.n; omega
      have hpl : pend.length < 1000000 := by have := hC.hn; omega
      by_cases hS : soundB r2 = true
      · have cP := Put_c dur seen pend r2 hS hpl hcn
        have rP := (rPut_c hC.L r2 hf hcn).1 hS
        have hC2 := hC.put (entL r2.path, some (encT r2)) (ent_small (sound_place hS)) (fun t e => by cases e; exact enc_small hS) (by omega)
        have hdw : Go.Ab.doW seen (entL r2.path, some (encT r2)) = setS (entL r2.path) (encT r2) seen := rfl
        rw [hdw] at hC2
        generalize (entL r2.path, some (encT r2)) = w at cP rP hC2
        generalize setS (entL r2.path) (encT r2) seen = seen2 at cP hC2 hdw
        generalize pend ++ [w] = pw at cP rP hC2
        refine awp_of ?_
        unfold dbO at cP
        unfold refV at rP
        simp +decide -dsimp -implicitDefEqProofs [go_sem, rRow_len, rRow_take]
        refine callE_frame [1, 2, 3, 4] cP rfl rfl (by simp) (by simp +decide -dsimp -implicitDefEqProofs [go_sem, rRow_ren]) (by simp +decide -dsimp -implicitDefEqProofs [go_sem, hdr, hgr, mO_ren]) ?_
        simp +decide -dsimp -implicitDefEqProofs [go_sem, hdr, hgr, mO_ren, hbx, rRow_len, rRow_take]
        refine callE_pure rP (by simp +decide -dsimp -implicitDefEqProofs [go_sem, hec, hwR, rRow_cl]) (by simp +decide -dsimp -implicitDefEqProofs [go_sem, hec, hwR]) ?_
        simp +decide -dsimp -implicitDefEqProofs [go_sem]
        refine endW_of (tmps 171 [(10, .ptr 8 0), (11, .bool true)]) [tapeO t k3, dbB 2 3 4 (pw).length, mO (dur), mO (seen2), .reg 88 1 ((pw).map wRow), .unborn, .unborn, bxW dur pend, bxW (dur) (pw)] (cut_of (by simp) ?_) ?_
        · simp +decide -dsimp -implicitDefEqProofs [go_sem, tapeO, dbB, mO_def, bxW, hcl, hec, hwR]
          (repeat' apply And.intro) <;> first | exact hsc _ _ | exact hss _ _ | omega | rfl
        simp +decide -dsimp -implicitDefEqProofs [go_sem, bxW, packR]
        exact ⟨k3, dur, seen2, pw, by omega, hC2, rfl, .inl rfl⟩
      · have cP := PutBad_c dur seen pend r2 hf hS
        have rP := (rPut_c hC.L r2 hf hcn).2 hS
        refine awp_of ?_
        unfold dbO at cP
        unfold refV at rP
        simp +decide -dsimp -implicitDefEqProofs [go_sem, rRow_len, rRow_take]
        refine callE_frame [1, 2, 3, 4] cP rfl rfl (by simp) (by simp +decide -dsimp -implicitDefEqProofs [go_sem, rRow_ren]) (by simp +decide -dsimp -implicitDefEqProofs [go_sem, hdr, hgr, mO_ren]) ?_
        simp +decide -dsimp -implicitDefEqProofs [go_sem, hdr, hgr, mO_ren, hbx, rRow_len, rRow_take]
        refine callE_pure rP (by simp +decide -dsimp -implicitDefEqProofs [go_sem, hec, hwR, rRow_cl]) (by simp +decide -dsimp -implicitDefEqProofs [go_sem, hec, hwR]) ?_
        simp +decide -dsimp -implicitDefEqProofs [go_sem]
        refine endW_of (tmps 171 [(10, .ptr 8 0), (11, .bool true)]) [tapeO t k3, dbB 2 3 4 (pend).length, mO (dur), mO (seen), .reg 88 1 ((pend).map wRow), .unborn, .unborn, bxW dur pend, bxW (dur) (pend)] (cut_of (by simp) ?_) ?_
        · simp +decide -dsimp -implicitDefEqProofs [go_sem, tapeO, dbB, mO_def, bxW, hcl, hec, hwR]
          (repeat' apply And.intro) <;> first | exact hsc _ _ | exact hss _ _ | omega | rfl
        simp +decide -dsimp -implicitDefEqProofs [go_sem, bxW, packR]
        exact ⟨k3, dur, seen, pend, by omega, hC.le (Nat.le_succ n), rfl, .inl rfl⟩
    rw [show (Opd.t 54).ev (tmps 171 [(0, .ptr 0 0), (1, .ptr 1 0), (3, .str p), (4, .str name), (53, .int .i64 g), (54, .bool (decide (g ≤ 3))), (7, .ptr 7 0), (10, .ptr 8 0)]) = .bool (decide (g ≤ 3)) from rfl, decide_eq_false h3]
    show awp _ _ _ _ _
    refine awp_cut ⟨tmps 171 [(0, .ptr 0 0), (1, .ptr 1 0), (3, .str p), (4, .str name), (53, .int .i64 g), (85, .bool (decide (g ≤ 5))), (7, .ptr 7 0), (10, .ptr 8 0)], (hW t (k1 + 1) dur seen pend [])⟩ (awp_of ?_) ?_
    · have e3 : g = 4 ∨ g = 5 ∨ 5 < g := by omega
      rcases e3 with rfl | rfl | h3
      rotate_right
      · have n0 : ¬ g = 4 := by omega
        have n1 : ¬ g = 5 := by omega
        have n4 : ¬ g ≤ 5 := by omega
        simp +decide -dsimp -implicitDefEqProofs [go_sem, n0, n4]
        refine cutE_of (by simp) ?_
        simp +decide -dsimp -implicitDefEqProofs [go_sem, tapeO, dbB, mO_def, bxW, hcl, hec, hwR]
        (repeat' apply And.intro) <;> first | exact hsc _ _ | exact hss _ _ | omega | rfl
      all_goals
        simp +decide -dsimp -implicitDefEqProofs [go_sem]
        refine cutE_of (by simp) ?_
        simp +decide -dsimp -implicitDefEqProofs [go_sem, tapeO, dbB, mO_def, bxW, hcl, hec, hwR]
        (repeat' apply And.intro) <;> first | exact hsc _ _ | exact hss _ _ | omega | rfl
    refine awp_cond ?_
    have hpl : pend.length < 1000000 := by have := hC.hn; omega
    by_cases h5 : g ≤ 5
    · rw [show (Opd.t 85).ev (tmps 171 [(0, .ptr 0 0), (1, .ptr 1 0), (3, .str p), (4, .str name), (53, .int .i64 g), (85, .bool (decide (g ≤ 5))), (7, .ptr 7 0), (10, .ptr 8 0)]) = .bool (decide (g ≤ 5)) from rfl, decide_eq_true h5]
      show awp _ _ _ _ _
      refine awp_of ?_
      by_cases hpp : placeB p = true
      rotate_left
      · have cX := DeleteBad_c dur seen pend p hpp (by omega)
        have rX := rDeleteBad_c dur pend p hpp (by omega)
        unfold dbO at cX
        unfold refV at rX
        simp +decide -dsimp -implicitDefEqProofs [go_sem]
        refine callE_frame [1, 2, 3, 4] cX rfl rfl (by simp) rfl (by simp +decide -dsimp -implicitDefEqProofs [go_sem, hdr, hgr, mO_ren]) ?_
        simp +decide -dsimp -implicitDefEqProofs [go_sem, hdr, hgr, mO_ren, hbx]
        refine callE_pure rX (by simp +decide -dsimp -implicitDefEqProofs [go_sem, hec, hwR]) (by simp +decide -dsimp -implicitDefEqProofs [go_sem, hec, hwR]) ?_
        simp +decide -dsimp -implicitDefEqProofs [go_sem]
        refine endW_of (tmps 171 [(10, .ptr 8 0), (11, .bool true)]) [tapeO t (k1 + 1), dbB 2 3 4 (pend).length, mO (dur), mO (seen), .reg 88 1 ((pend).map wRow), .unborn, .unborn, bxW dur pend, bxW (dur) (pend)] (cut_of (by simp) ?_) ?_
        · simp +decide -dsimp -implicitDefEqProofs [go_sem, tapeO, dbB, mO_def, bxW, hcl, hec, hwR]
          (repeat' apply And.intro) <;> first | exact hsc _ _ | exact hss _ _ | omega | rfl
        simp +decide -dsimp -implicitDefEqProofs [go_sem, bxW, packR]
        exact ⟨(k1 + 1), dur, seen, pend, by omega, hC.le (Nat.le_succ n), rfl, .inl rfl⟩
      cases hg : getS (entL p) seen with
      | none =>
        have cX := (Delete_c dur seen pend p hpp (by omega) hpl).2 hg
        have rX := (rDelete_c hC.L p hpp).2 hg
        unfold dbO at cX
        unfold refV at rX
        simp +decide -dsimp -implicitDefEqProofs [go_sem]
        refine callE_frame [1, 2, 3, 4] cX rfl rfl (by simp) rfl (by simp +decide -dsimp -implicitDefEqProofs [go_sem, hdr, hgr, mO_ren]) ?_
        simp +decide -dsimp -implicitDefEqProofs [go_sem, hdr, hgr, mO_ren, hbx]
        refine callE_pure rX (by simp +decide -dsimp -implicitDefEqProofs [go_sem, hec, hwR]) (by simp +decide -dsimp -implicitDefEqProofs [go_sem, hec, hwR]) ?_
        simp +decide -dsimp -implicitDefEqProofs [go_sem]
        refine endW_of (tmps 171 [(10, .ptr 8 0), (11, .bool true)]) [tapeO t (k1 + 1), dbB 2 3 4 (pend).length, mO (dur), mO (seen), .reg 88 1 ((pend).map wRow), .unborn, .unborn, bxW dur pend, bxW (dur) (pend)] (cut_of (by simp) ?_) ?_
        · simp +decide -dsimp -implicitDefEqProofs [go_sem, tapeO, dbB, mO_def, bxW, hcl, hec, hwR]
          (repeat' apply And.intro) <;> first | exact hsc _ _ | exact hss _ _ | omega | rfl
        simp +decide -dsimp -implicitDefEqProofs [go_sem, bxW, packR]
        exact ⟨(k1 + 1), dur, seen, pend, by omega, hC.le (Nat.le_succ n), rfl, .inl rfl⟩
      | some tx =>
        have hne : getS (entL p) seen ≠ none := by rw [hg]; simp
        have cX := (Delete_c dur seen pend p hpp (by omega) hpl).1 hne
        have rX := (rDelete_c hC.L p hpp).1 hne
        have hC2 := hC.put (entL p, none) (ent_small hpp) (fun t e => by cases e) (by omega)
        have hdw : Go.Ab.doW seen (entL p, none) = delS (entL p) seen := rfl
        rw [hdw] at hC2
        generalize (entL p, none) = w at cX rX hC2
        generalize delS (entL p) seen = seen2 at cX hC2 hdw
        generalize pend ++ [w] = pw at cX rX hC2
        unfold dbO at cX
        unfold refV at rX
        simp +decide -dsimp -implicitDefEqProofs [go_sem]
        refine callE_frame [1, 2, 3, 4] cX rfl rfl (by simp) rfl (by simp +decide -dsimp -implicitDefEqProofs [go_sem, hdr, hgr, mO_ren]) ?_
        simp +decide -dsimp -implicitDefEqProofs [go_sem, hdr, hgr, mO_ren, hbx]
        refine callE_pure rX (by simp +decide -dsimp -implicitDefEqProofs [go_sem, hec, hwR]) (by simp +decide -dsimp -implicitDefEqProofs [go_sem, hec, hwR]) ?_
        simp +decide -dsimp -implicitDefEqProofs [go_sem]
        refine endW_of (tmps 171 [(10, .ptr 8 0), (11, .bool true)]) [tapeO t (k1 + 1), dbB 2 3 4 (pw).length, mO (dur), mO (seen2), .reg 88 1 ((pw).map wRow), .unborn, .unborn, bxW dur pend, bxW (dur) (pw)] (cut_of (by simp) ?_) ?_
        · simp +decide -dsimp -implicitDefEqProofs [go_sem, tapeO, dbB, mO_def, bxW, hcl, hec, hwR]
          (repeat' apply And.intro) <;> first | exact hsc _ _ | exact hss _ _ | omega | rfl
        simp +decide -dsimp -implicitDefEqProofs [go_sem, bxW, packR]
        exact ⟨(k1 + 1), dur, seen2, pw, by omega, hC2, rfl, .inl rfl⟩
    rw [show (Opd.t 85).ev (tmps 171 [(0, .ptr 0 0), (1, .ptr 1 0), (3, .str p), (4, .str name), (53, .int .i64 g), (85, .bool (decide (g ≤ 5))), (7, .ptr 7 0), (10, .ptr 8 0)]) = .bool (decide (g ≤ 5)) from rfl, decide_eq_false h5]
    show awp _ _ _ _ _
    refine awp_cut ⟨tmps 171 [(0, .ptr 0 0), (1, .ptr 1 0), (3, .str p), (4, .str name), (53, .int .i64 g), (101, .bool (decide (g = 6))), (7, .ptr 7 0), (10, .ptr 8 0)], (hW t (k1 + 1) dur seen pend [])⟩ (awp_of ?_) ?_
    · simp +decide -dsimp -implicitDefEqProofs [go_sem]
      refine cutE_of (by simp) ?_
      simp +decide -dsimp -implicitDefEqProofs [go_sem, tapeO, dbB, mO_def, bxW, hcl, hec, hwR]
      (repeat' apply And.intro) <;> first | exact hsc _ _ | exact hss _ _ | omega | rfl
    refine awp_cond ?_
    by_cases h6 : g = 6
    · rw [show (Opd.t 101).ev (tmps 171 [(0, .ptr 0 0), (1, .ptr 1 0), (3, .str p), (4, .str name), (53, .int .i64 g), (101, .bool (decide (g = 6))), (7, .ptr 7 0), (10, .ptr 8 0)]) = .bool (decide (g = 6)) from rfl, decide_eq_true h6]
      show awp _ _ _ _ _
      have rD := rDamaged_c hC.L
      unfold refV at rD
      have hdk : ∀ x ∈ dmgL seen, x.length ≤ 1000000 := fun x hx => by
        have := (mem_dmg hC.L.F.o).1 hx
        exact hC.L.F.k x ((mem_ksS hC.L.F.o).2 (by cases e : getS x seen with | none => exact absurd e this.1 | some _ => rfl))
      have hdl : (dmgL seen).length ≤ 100000 := by
        classical
        have h1 : (dmgL seen).length ≤ (srtK (ksS seen)).length := by unfold dmgL; exact List.length_filter_le _ _
        rw [srtK_len, ksS_len] at h1
        have h2 := ents_len' (m := seen)
        omega
      have hsR := renLL_sRows
      refine awp_cutX (S := Nat × List UInt8) (fun s => ⟨tW p [(4, .str s.2)], (hW t s.1 dur seen pend [])⟩) (fun s => s.1 ≤ k + 200 ∧ s.2.length ≤ 1000000) (awp_of ?_) ?_
      · generalize dmgL seen = L at rD hdk hdl
        simp +decide -dsimp -implicitDefEqProofs [go_sem, hbx]
        refine callE_pure rD (by simp +decide -dsimp -implicitDefEqProofs [go_sem, hec, hwR]) (by simp +decide -dsimp -implicitDefEqProofs [go_sem, hss]) ?_
        by_cases hL0 : 0 < L.length
        rotate_left
        · simp +decide -dsimp -implicitDefEqProofs [go_sem, hL0]
          refine cutX_of (k1 + 1, name) ⟨by show k1 + 1 ≤ k + 200; omega, by show name.length ≤ _; omega⟩ (cut_of (by simp) ?_)
          simp +decide -dsimp -implicitDefEqProofs [go_sem, tapeO, dbB, mO_def, bxW, hcl, hec, hwR]
          (repeat' apply And.intro) <;> first | exact hsc _ _ | exact hss _ _ | omega | rfl
        have c1 := Next_c t (k1 + 1) 3 (by omega) (by omega)
        have b1 := fold_bd (tapeV t (k1 + 1)) 3 (by omega)
        generalize fold (tapeV t (k1 + 1)) 3 = gs at c1 b1
        simp +decide -dsimp -implicitDefEqProofs [go_sem, hL0]
        refine callE_frame [0] c1 rfl rfl (by simp) rfl (by simp +decide -dsimp -implicitDefEqProofs [go_sem, tapeO_ren]) ?_
        by_cases hz : 0 < gs
        rotate_left
        · simp +decide -dsimp -implicitDefEqProofs [go_sem, tapeO_ren, hz]
          refine cutX_of (k1 + 1 + 1, name) ⟨by show k1 + 1 + 1 ≤ k + 200; omega, by show name.length ≤ _; omega⟩ (cut_of (by simp) ?_)
          simp +decide -dsimp -implicitDefEqProofs [go_sem, tapeO, dbB, mO_def, bxW, hcl, hec, hwR]
          (repeat' apply And.intro) <;> first | exact hsc _ _ | exact hss _ _ | omega | rfl
        have c2 := Next_c t (k1 + 1 + 1) L.length (by omega) (by omega)
        have b2 := fold_bd (tapeV t (k1 + 1 + 1)) L.length (by omega)
        obtain ⟨j, hj⟩ : ∃ j : Nat, fold (tapeV t (k1 + 1 + 1)) L.length = j := ⟨_, (Int.toNat_of_nonneg b2.1).symm⟩
        rw [hj] at c2 b2
        have hjl : j < L.length := by omega
        simp +decide -dsimp -implicitDefEqProofs [go_sem, tapeO_ren, hz]
        refine callE_frame [0] c2 rfl rfl (by simp) rfl (by simp +decide -dsimp -implicitDefEqProofs [go_sem, tapeO_ren]) ?_
        simp +decide -dsimp -implicitDefEqProofs [go_sem, tapeO_ren, hjl]
        refine cutX_of (k1 + 1 + 1 + 1, L[j]) ⟨by show k1 + 1 + 1 + 1 ≤ k + 200; omega, hdk _ (List.getElem_mem hjl)⟩ (cut_of (by simp) ?_)
        simp +decide -dsimp -implicitDefEqProofs [go_sem, tapeO, dbB, mO_def, bxW, hcl, hec, hwR]
        (repeat' apply And.intro) <;> first | exact hsc _ _ | exact hss _ _ | omega | rfl
      rintro ⟨k2, nm⟩ ⟨hk2, hnm⟩
      simp only at hk2 hnm ⊢
      refine awp_of ?_
      by_cases hm : nm ∈ dmgL seen
      · have hm' := (mem_dmg hC.L.F.o).1 hm
        have cX := (Clean_c dur seen pend nm hC.L.F hpl).1 hm'
        have rX := (rClean_c hC.L nm).1 hm
        have hC2 := hC.put (nm, none) hnm (fun t e => by cases e) (by omega)
        have hdw : Go.Ab.doW seen (nm, none) = delS nm seen := rfl
        rw [hdw] at hC2
        generalize (nm, none) = w at cX rX hC2
        generalize delS nm seen = seen2 at cX hC2 hdw
        generalize pend ++ [w] = pw at cX rX hC2
        unfold dbO at cX
        unfold refV at rX
        simp +decide -dsimp -implicitDefEqProofs [go_sem]
        refine callE_frame [1, 2, 3, 4] cX rfl rfl (by simp) rfl (by simp +decide -dsimp -implicitDefEqProofs [go_sem, hdr, hgr, mO_ren]) ?_
        simp +decide -dsimp -implicitDefEqProofs [go_sem, hdr, hgr, mO_ren, hbx]
        refine callE_pure rX (by simp +decide -dsimp -implicitDefEqProofs [go_sem, hec, hwR]) (by simp +decide -dsimp -implicitDefEqProofs [go_sem, hec, hwR]) ?_
        simp +decide -dsimp -implicitDefEqProofs [go_sem]
        refine endW_of (tmps 171 [(10, .ptr 8 0), (11, .bool true)]) [tapeO t k2, dbB 2 3 4 (pw).length, mO (dur), mO (seen2), .reg 88 1 ((pw).map wRow), .unborn, .unborn, bxW dur pend, bxW (dur) (pw)] (cut_of (by simp) ?_) ?_
        · simp +decide -dsimp -implicitDefEqProofs [go_sem, tapeO, dbB, mO_def, bxW, hcl, hec, hwR]
          (repeat' apply And.intro) <;> first | exact hsc _ _ | exact hss _ _ | omega | rfl
        simp +decide -dsimp -implicitDefEqProofs [go_sem, bxW, packR]
        exact ⟨k2, dur, seen2, pw, by omega, hC2, rfl, .inl rfl⟩
      · have hm' : getS nm seen = none ∨ wholeP seen nm := by
          by_cases e : getS nm seen = none
          · exact .inl e
          · exact .inr (Classical.byContradiction fun hw => hm ((mem_dmg hC.L.F.o).2 ⟨e, hw⟩))
        have cX := (Clean_c dur seen pend nm hC.L.F hpl).2 hm'
        have rX := (rClean_c hC.L nm).2 hm
        unfold dbO at cX
        unfold refV at rX
        simp +decide -dsimp -implicitDefEqProofs [go_sem]
        refine callE_frame [1, 2, 3, 4] cX rfl rfl (by simp) rfl (by simp +decide -dsimp -implicitDefEqProofs [go_sem, hdr, hgr, mO_ren]) ?_
        simp +decide -dsimp -implicitDefEqProofs [go_sem, hdr, hgr, mO_ren, hbx]
        refine callE_pure rX (by simp +decide -dsimp -implicitDefEqProofs [go_sem, hec, hwR]) (by simp +decide -dsimp -implicitDefEqProofs [go_sem, hec, hwR]) ?_
        simp +decide -dsimp -implicitDefEqProofs [go_sem]
        refine endW_of (tmps 171 [(10, .ptr 8 0), (11, .bool true)]) [tapeO t k2, dbB 2 3 4 (pend).length, mO (dur), mO (seen), .reg 88 1 ((pend).map wRow), .unborn, .unborn, bxW dur pend, bxW (dur) (pend)] (cut_of (by simp) ?_) ?_
        · simp +decide -dsimp -implicitDefEqProofs [go_sem, tapeO, dbB, mO_def, bxW, hcl, hec, hwR]
          (repeat' apply And.intro) <;> first | exact hsc _ _ | exact hss _ _ | omega | rfl
        simp +decide -dsimp -implicitDefEqProofs [go_sem, bxW, packR]
        exact ⟨k2, dur, seen, pend, by omega, hC.le (Nat.le_succ n), rfl, .inl rfl⟩
    rw [show (Opd.t 101).ev (tmps 171 [(0, .ptr 0 0), (1, .ptr 1 0), (3, .str p), (4, .str name), (53, .int .i64 g), (101, .bool (decide (g = 6))), (7, .ptr 7 0), (10, .ptr 8 0)]) = .bool (decide (g = 6)) from rfl, decide_eq_false h6]
    show awp _ _ _ _ _
    refine awp_of ?_
    by_cases h7 : g = 7
    · have cY := ACallsR.unbornG 2 (sync_c dur seen pend) (fun v G h => by rw [h.2]; exact Nat.le_refl _)
      have rY := rSync_c dur pend hC.L.o hC.L.n
      rw [refV_ext (one_fold pend hC.L.o) hC.L.F.o hC.L.e] at rY
      unfold refV at rY
      have hC2 := (hC.sync (by omega)).le (Nat.le_succ n)
      have hdr2 : renO [1, 2, 3, 4, 5, 6] (dbB 1 2 3 pend.length) = dbB 2 3 4 pend.length := rfl
      have hdr3 : renO [1, 2, 3, 4, 5, 6] (dbB 4 2 5 0) = dbB 5 3 6 0 := rfl
      have hgr0 : ∀ (is : List Nat), renO is (.reg 88 1 []) = .reg 88 1 [] := fun _ => rfl
      simp only [dbO, List.replicate, List.cons_append, List.nil_append] at cY
      simp +decide -dsimp -implicitDefEqProofs [go_sem, h7]
      refine callE_frameR [1, 2, 3, 4, 5, 6] cY rfl (fun v G h => by rw [h.2]; rfl) (by simp) rfl (by simp +decide -dsimp -implicitDefEqProofs [go_sem, hdr2, hgr, mO_ren]) ?_
      rintro _ _ ⟨rfl, rfl⟩
      simp +decide -dsimp -implicitDefEqProofs [go_sem, hdr3, hgr, hgr0, mO_ren, hbx]
      refine callE_pure rY (by simp +decide -dsimp -implicitDefEqProofs [go_sem, hec, hwR]) (by simp +decide -dsimp -implicitDefEqProofs [go_sem, hec]) ?_
      simp +decide -dsimp -implicitDefEqProofs [go_sem]
      refine endW_of (tmps 171 [(10, .ptr 8 0), (11, .bool true)]) [tapeO t (k1 + 1), dbB 5 3 6 0, mO dur, mO seen, .reg 88 1 (pend.map wRow), mO seen, .reg 88 1 [], bxW dur pend, bxW seen []] (cut_of (by simp) ?_) ?_
      · simp +decide -dsimp -implicitDefEqProofs [go_sem, tapeO, dbB, mO_def, bxW, hcl, hec, hwR]
        (repeat' apply And.intro) <;> first | exact hsc _ _ | exact hss _ _ | omega | rfl
      simp +decide -dsimp -implicitDefEqProofs [go_sem, bxW, packR]
      exact ⟨k1 + 1, seen, seen, [], by omega, hC2, rfl, .inr (.inl ⟨rfl, rfl⟩)⟩
    by_cases h8 : g = 8
    · have c1 := Next_c t (k1 + 1) 5 (by omega) (by omega)
      have b1 := fold_bd (tapeV t (k1 + 1)) 5 (by omega)
      generalize fold (tapeV t (k1 + 1)) 5 = gk at c1 b1
      have wk : IntKind.i64.wrap (gk - 1) = gk - 1 := w64 (by omega) (by omega)
      have cY := ACallsR.unbornG 2 (crash_c dur seen pend (gk - 1) hpl) (fun v G h => by rw [h.2]; exact Nat.le_refl _)
      have rY := rCrash_c dur pend (gk - 1) hC.L.o hC.L.n
      have hC2 := (hC.crash (keepN (gk - 1) pend.length) (by omega)).le (Nat.le_succ n)
      generalize foldW dur (pend.take (keepN (gk - 1) pend.length)) = dF at cY rY hC2
      unfold refV at rY
      have hdr2 : renO [1, 2, 3, 4, 5, 6] (dbB 1 2 3 pend.length) = dbB 2 3 4 pend.length := rfl
      have hdr3 : renO [1, 2, 3, 4, 5, 6] (dbB 1 4 5 0) = dbB 2 5 6 0 := rfl
      have hgr0 : ∀ (is : List Nat), renO is (.reg 88 1 []) = .reg 88 1 [] := fun _ => rfl
      simp only [dbO, List.replicate, List.cons_append, List.nil_append] at cY
      simp +decide -dsimp -implicitDefEqProofs [go_sem, h8]
      refine callE_frame [0] c1 rfl rfl (by simp) rfl (by simp +decide -dsimp -implicitDefEqProofs [go_sem, tapeO_ren]) ?_
      simp +decide -dsimp -implicitDefEqProofs [go_sem, tapeO_ren, wk]
      refine callE_frameR [1, 2, 3, 4, 5, 6] cY rfl (fun v G h => by rw [h.2]; rfl) (by simp) rfl (by simp +decide -dsimp -implicitDefEqProofs [go_sem, hdr2, hgr, mO_ren]) ?_
      rintro _ _ ⟨rfl, rfl⟩
      simp +decide -dsimp -implicitDefEqProofs [go_sem, hdr3, hgr, hgr0, mO_ren, hbx]
      refine callE_pure rY (by simp +decide -dsimp -implicitDefEqProofs [go_sem, hec, hwR]) (by simp +decide -dsimp -implicitDefEqProofs [go_sem, hec]) ?_
      simp +decide -dsimp -implicitDefEqProofs [go_sem]
      refine endW_of (tmps 171 [(10, .ptr 8 0), (11, .bool true)]) [tapeO t (k1 + 1 + 1), dbB 2 5 6 0, mO dF, mO seen, .reg 88 1 (pend.map wRow), mO dF, .reg 88 1 [], bxW dur pend, bxW dF []] (cut_of (by simp) ?_) ?_
      · simp +decide -dsimp -implicitDefEqProofs [go_sem, tapeO, dbB, mO_def, bxW, hcl, hec, hwR]
        (repeat' apply And.intro) <;> first | exact hsc _ _ | exact hss _ _ | omega | rfl
      simp +decide -dsimp -implicitDefEqProofs [go_sem, bxW, packR]
      exact ⟨k1 + 1 + 1, dF, dF, [], by omega, hC2, rfl, .inr (.inr ⟨rfl, rfl⟩)⟩
    obtain ⟨r, b, hr, cX⟩ := cG
    have rX := rGet_c hC.L hl hln p hr
    have hfit : Fit r := by
      rcases hr with ⟨x, hx, _, rfl, _⟩ | ⟨_, rfl, _⟩
      · exact (small_of ((hl.mem _).1 hx).1).few.fit
      · exact nil0_few.fit
    have cS := rSame_c r r hfit hfit
    rw [decide_eq_true rfl] at cS
    unfold dbO recV at cX
    unfold refV recV at rX
    simp +decide -dsimp -implicitDefEqProofs [go_sem, h7, h8]
    refine awp_of ?_
    simp +decide -dsimp -implicitDefEqProofs [go_sem]
    refine callE_frame [1, 2, 3, 4] cX rfl rfl (by simp) rfl (by simp +decide -dsimp -implicitDefEqProofs [go_sem, hdr, hgr, mO_ren]) ?_
    simp +decide -dsimp -implicitDefEqProofs [go_sem, hdr, hgr, mO_ren, hbx, rRow_len, rRow_ren]
    refine callE_pure rX (by simp +decide -dsimp -implicitDefEqProofs [go_sem, hec, hwR]) (by simp +decide -dsimp -implicitDefEqProofs [go_sem, rRow_cl]) ?_
    simp +decide -dsimp -implicitDefEqProofs [go_sem, rRow_len, rRow_take]
    refine callDE_pure cS (by simp +decide -dsimp -implicitDefEqProofs [go_sem, rRow_cl]) rfl ?_
    simp +decide -dsimp -implicitDefEqProofs [go_sem]
    refine endW_of (tmps 171 [(10, .ptr 8 0), (11, .bool true)]) [tapeO t (k1 + 1), dbB 2 3 4 (pend).length, mO (dur), mO (seen), .reg 88 1 ((pend).map wRow), .unborn, .unborn, bxW dur pend, bxW (dur) (pend)] (cut_of (by simp) ?_) ?_
    · simp +decide -dsimp -implicitDefEqProofs [go_sem, tapeO, dbB, mO_def, bxW, hcl, hec, hwR]
      (repeat' apply And.intro) <;> first | exact hsc _ _ | exact hss _ _ | omega | rfl
    simp +decide -dsimp -implicitDefEqProofs [go_sem, bxW, packR]
    exact ⟨(k1 + 1), dur, seen, pend, by omega, hC.le (Nat.le_succ n), rfl, .inl rfl⟩
end Go.Ab
