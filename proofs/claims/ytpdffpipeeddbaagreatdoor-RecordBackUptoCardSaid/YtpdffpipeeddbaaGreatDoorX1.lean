/- Made arguments: a record with one thing changed. -/
import Derived.Test.YtpdffpipeeddbaaGreatDoorW9
import Derived.Test.YtpdffpipeeddbaaGreatDoorW3
import Derived.Test.YtpdffpipeeddbaaGreatDoorW4
import Derived.Test.YtpdffpipeeddbaaGreatDoorA5
namespace Go.Ab
open Go Go.Proofs
def spR (t : List Int) (av : AV) (H : List AObj) : Prop := ∃ r k', av = .agg (rRow r) ∧ H = [tapeO t k'] ∧ Few r
def rBox (r : Rcd) (a b c : AV) : AObj := .box 26 [.str r.path, .int .i64 r.index, a, b, c, .imm (r.run.map sRow), .imm (r.load.map sRow), .str r.name, .int .i64 r.prio, .str r.owner, .str r.group, .int .i64 r.mode]
def tagT (j : Nat) : List UInt8 := [116, UInt8.ofNat (97 + j)]
def tagsT (i : Nat) : List (List UInt8) := (List.range i).map tagT
theorem tagsT_succ (i : Nat) : tagsT (i + 1) = tagsT i ++ [tagT i] := by simp [tagsT, List.range_succ]
theorem tagsT_len (i : Nat) : (tagsT i).length = i := by simp [tagsT]
theorem ofNat_row {n : Nat} (h : n < 256) : [AV.int .u8 (n : Int)] = bRow (UInt8.ofNat n) := by
  simp only [bRow, UInt8.toNat_ofNat']
  rw [Nat.mod_eq_of_lt h]
theorem unb_one {n : Nat} (h : n < 256) : unb [[AV.int .u8 (n : Int)]] = some [UInt8.ofNat n] := by
  rw [ofNat_row h]; exact unb_map [UInt8.ofNat n]
theorem unb_two {n m : Nat} (h : n < 256) (h' : m < 256) : unb [[AV.int .u8 (n : Int)], [AV.int .u8 (m : Int)]] = some [UInt8.ofNat n, UInt8.ofNat m] := by
  rw [ofNat_row h, ofNat_row h']; exact unb_map [UInt8.ofNat n, UInt8.ofNat m]
def sp0Sx : List (List UInt8) := [[], [47], [97], [47, 97, 47], [47, 97, 47, 47, 98], [47, 46, 46], [47, 97, 32, 98], [47, 49, 47, 50, 47, 51, 47, 52, 47, 53, 47, 54, 47, 55, 47, 56]]
theorem sp0Sx_ok : ∀ x ∈ sp0Sx, x.length ≤ 20 := by decide
def sp2Sx : List (List UInt8) := [[65], [90, 90], [97], [49, 65], [], [83, 85, 66, 83, 89, 83, 84, 69, 77]]
theorem sp2Sx_ok : ∀ x ∈ sp2Sx, x.length ≤ 20 := by decide
def sp2Sy : List (List UInt8) := [[49], [10], [127], [111, 107]]
theorem sp2Sy_ok : ∀ x ∈ sp2Sy, x.length ≤ 20 := by decide
def sp3Sx : List (List UInt8) := [[97], [122, 122], [], [122, 32, 122], [117, 97, 99, 99, 101, 115, 115], [46, 46]]
theorem sp3Sx_ok : ∀ x ∈ sp3Sx, x.length ≤ 20 := by decide
def sp4Sx : List (List UInt8) := [[97], [122, 122], [], [47, 122], [122, 47, 47, 122], [122, 122, 47], [122, 47, 46, 46], [122, 122, 47, 97, 35, 98]]
theorem sp4Sx_ok : ∀ x ∈ sp4Sx, x.length ≤ 20 := by decide
def sp5Sx : List (List UInt8) := [[], [120], [9], [114, 117, 110, 32, 122]]
theorem sp5Sx_ok : ∀ x ∈ sp5Sx, x.length ≤ 20 := by decide
def sp6Sx : List (List UInt8) := [[], [120], [122], [97], [0]]
theorem sp6Sx_ok : ∀ x ∈ sp6Sx, x.length ≤ 20 := by decide
def sp7Sx : List (List UInt8) := [[97, 58, 98], [97, 33, 98], [49, 50, 51, 52, 53, 54, 55, 56, 57, 48, 49, 50, 51, 52, 53, 54], [49, 50, 51, 52, 53, 54, 55, 56, 57, 48, 49, 50, 51, 52, 53], [46, 46], [120]]
theorem sp7Sx_ok : ∀ x ∈ sp7Sx, x.length ≤ 20 := by decide
def sp9Sx : List (List UInt8) := [[], [97, 32, 98], [120], [46, 46]]
theorem sp9Sx_ok : ∀ x ∈ sp9Sx, x.length ≤ 20 := by decide
def sp10Sx : List (List UInt8) := [[], [10], [121]]
theorem sp10Sx_ok : ∀ x ∈ sp10Sx, x.length ≤ 20 := by decide
set_option maxRecDepth 20000 in
set_option maxHeartbeats 8000000 in
theorem spoilt_c (t : List Int) (k : Nat) (r : Rcd) (hk : k < 800000000) (hr : Small r) : ∃ av H', spR t av H' ∧ ACalls Tryz.prog 36 [.ptr 0 0, .agg (rRow r)] [tapeO t k] av H' := by
  refine acalls_EA (spR t) 0 c36_ok ?_
  unfold c36
  have z1 := hr.props; have z2 := hr.tags; have z3 := hr.links; have z4 := hr.runs; have z5 := hr.loads; have z6 := hr.path
  have few := hr.few
  refine awp_cut ⟨tmps 225 [(0, .ptr 0 0), (3, .ptr 1 0), (4, .ptr 2 0)], [tapeO t k, .box 26 (rRow r), .box 26 [.str [], .int .i64 0, .nils, .nils, .nils, .nils, .nils, .str [], .int .i64 0, .str [], .str [], .int .i64 0]]⟩ (awp_of ?_)
    (awp_cut ⟨tmps 225 [(0, .ptr 0 0), (3, .ptr 1 0), (4, .ptr 2 0)], [tapeO t k, rBox r (.own 3 r.props.length) (.imm (r.tags.map sRow)) (.imm (r.links.map sRow)), .box 26 [.str [], .int .i64 0, .nils, .nils, .nils, .nils, .nils, .str [], .int .i64 0, .str [], .str [], .int .i64 0], .reg 57 2 (r.props.map aRow)]⟩ (awp_of ?_)
    (awp_cut ⟨tmps 225 [(0, .ptr 0 0), (3, .ptr 1 0), (4, .ptr 2 0)], [tapeO t k, rBox r (.own 3 r.props.length) (.own 4 r.tags.length) (.imm (r.links.map sRow)), .box 26 [.str [], .int .i64 0, .nils, .nils, .nils, .nils, .nils, .str [], .int .i64 0, .str [], .str [], .int .i64 0], .reg 57 2 (r.props.map aRow), .reg 9 1 (r.tags.map sRow)]⟩ (awp_of ?_)
    (awp_cut ⟨tmps 225 [(0, .ptr 0 0), (3, .ptr 1 0), (4, .ptr 2 0)], [tapeO t k, rBox r (.own 3 r.props.length) (.own 4 r.tags.length) (.own 5 r.links.length), .box 26 [.str [], .int .i64 0, .nils, .nils, .nils, .nils, .nils, .str [], .int .i64 0, .str [], .str [], .int .i64 0], .reg 57 2 (r.props.map aRow), .reg 9 1 (r.tags.map sRow), .reg 9 1 (r.links.map sRow)]⟩ (awp_of ?_) (awp_of ?_))))
  · unfold rRow
    simp +decide -dsimp -implicitDefEqProofs [go_sem]
    refine cutE_of (by simp) ?_
    simp +decide -dsimp -implicitDefEqProofs [go_sem, tapeO]
  · unfold rRow
    simp +decide -dsimp -implicitDefEqProofs [go_sem, maxLen]
    refine ⟨fun q x y h e => by subst e; rfl, ⟨by omega, by omega⟩, ?_⟩
    refine cutE_of (by simp) ?_
    simp +decide -dsimp -implicitDefEqProofs [go_sem, tapeO, rBox]
  · unfold rBox
    simp +decide -dsimp -implicitDefEqProofs [go_sem, maxLen]
    refine ⟨⟨by omega, by omega⟩, ?_⟩
    refine cutE_of (by simp) ?_
    simp +decide -dsimp -implicitDefEqProofs [go_sem, tapeO]
  · unfold rBox
    simp +decide -dsimp -implicitDefEqProofs [go_sem, maxLen]
    refine ⟨⟨by omega, by omega⟩, ?_⟩
    refine cutE_of (by simp) ?_
    simp +decide -dsimp -implicitDefEqProofs [go_sem, tapeO]
  have o1 := Next_c t k 14 (by omega) (by omega)
  have b1 := fold_bd (tapeV t k) 14 (by omega)
  generalize fold (tapeV t k) 14 = v at o1 b1
  have fr : ∀ {a b : AV} {c d : AV → Prop}, True := trivial
  unfold rBox
  simp +decide -dsimp -implicitDefEqProofs [go_sem]
  refine callE_frame [0] o1 rfl rfl (by simp) rfl (by simp +decide -dsimp -implicitDefEqProofs [go_sem, tapeO_ren]) ?_
  simp +decide -dsimp -implicitDefEqProofs [go_sem, tapeO_ren]
  by_cases h0 : v = 0
  · rw [if_pos h0]
    have ox := One_c t (k + 1) sp0Sx (by omega) (by decide) (by decide)
    have mx := sp0Sx_ok _ (oneS_mem (ss := sp0Sx) (tapeV t (k + 1)) (by decide))
    generalize oneS sp0Sx (tapeV t (k + 1)) = x at ox mx
    unfold strsV at ox
    refine callE_frame [0] ox rfl rfl (by simp) rfl (by simp +decide -dsimp -implicitDefEqProofs [go_sem, tapeO_ren]) ?_
    simp +decide -dsimp -implicitDefEqProofs [go_sem, tapeO_ren]
    refine end_of (.agg (rRow { r with path := x })) [tapeO t (k + 1 + 1)] ⟨_, _, rfl, rfl, ⟨by show x.length < _; omega, few.tags, few.props, few.vals, few.links, few.link, few.runs, few.rn, few.loads, few.ld⟩⟩ rfl ?_
    simp +decide -dsimp -implicitDefEqProofs [go_sem, tapeO, rRow, sRow, aRow]
  rw [if_neg h0]
  by_cases h1 : v = 1
  · rw [if_pos h1]
    have o2 := Next_c t (k + 1) 4 (by omega) (by omega)
    have b2 := fold_bd (tapeV t (k + 1)) 4 (by omega)
    generalize fold (tapeV t (k + 1)) 4 = y at o2 b2
    refine callE_frame [0] o2 rfl rfl (by simp) rfl (by simp +decide -dsimp -implicitDefEqProofs [go_sem, tapeO_ren]) ?_
    rcases (by omega : y = 0 ∨ y = 1 ∨ y = 2 ∨ y = 3) with rfl | rfl | rfl | rfl
    · simp +decide -dsimp -implicitDefEqProofs [go_sem, tapeO_ren]
      refine end_of (.agg (rRow { r with index := 0 })) [tapeO t (k + 1 + 1)] ⟨_, _, rfl, rfl, ⟨few.path, few.tags, few.props, few.vals, few.links, few.link, few.runs, few.rn, few.loads, few.ld⟩⟩ rfl ?_
      simp +decide -dsimp -implicitDefEqProofs [go_sem, tapeO, rRow, sRow, aRow]
    · simp +decide -dsimp -implicitDefEqProofs [go_sem, tapeO_ren]
      refine end_of (.agg (rRow { r with index := -1 })) [tapeO t (k + 1 + 1)] ⟨_, _, rfl, rfl, ⟨few.path, few.tags, few.props, few.vals, few.links, few.link, few.runs, few.rn, few.loads, few.ld⟩⟩ rfl ?_
      simp +decide -dsimp -implicitDefEqProofs [go_sem, tapeO, rRow, sRow, aRow]
    · simp +decide -dsimp -implicitDefEqProofs [go_sem, tapeO_ren]
      refine end_of (.agg (rRow { r with index := 1073741824 })) [tapeO t (k + 1 + 1)] ⟨_, _, rfl, rfl, ⟨few.path, few.tags, few.props, few.vals, few.links, few.link, few.runs, few.rn, few.loads, few.ld⟩⟩ rfl ?_
      simp +decide -dsimp -implicitDefEqProofs [go_sem, tapeO, rRow, sRow, aRow]
    · simp +decide -dsimp -implicitDefEqProofs [go_sem, tapeO_ren]
      refine end_of (.agg (rRow { r with index := 1073741825 })) [tapeO t (k + 1 + 1)] ⟨_, _, rfl, rfl, ⟨few.path, few.tags, few.props, few.vals, few.links, few.link, few.runs, few.rn, few.loads, few.ld⟩⟩ rfl ?_
      simp +decide -dsimp -implicitDefEqProofs [go_sem, tapeO, rRow, sRow, aRow]
  rw [if_neg h1]
  by_cases h2 : v = 2
  · rw [if_pos h2]
    have ox := One_c t (k + 1) sp2Sx (by omega) (by decide) (by decide)
    have mx := sp2Sx_ok _ (oneS_mem (ss := sp2Sx) (tapeV t (k + 1)) (by decide))
    generalize oneS sp2Sx (tapeV t (k + 1)) = x at ox mx
    unfold strsV at ox
    refine callDE_frame [0] ox rfl rfl (by simp) rfl (by simp +decide -dsimp -implicitDefEqProofs [go_sem, tapeO_ren]) ?_
    simp +decide -dsimp -implicitDefEqProofs [go_sem, tapeO_ren]
    have oy := One_c t (k + 1 + 1) sp2Sy (by omega) (by decide) (by decide)
    have my := sp2Sy_ok _ (oneS_mem (ss := sp2Sy) (tapeV t (k + 1 + 1)) (by decide))
    generalize oneS sp2Sy (tapeV t (k + 1 + 1)) = y at oy my
    unfold strsV at oy
    refine callDE_frame [0] oy rfl rfl (by simp) rfl (by simp +decide -dsimp -implicitDefEqProofs [go_sem, tapeO_ren]) ?_
    simp +decide -dsimp -implicitDefEqProofs [go_sem, tapeO_ren, maxLen]
    refine ⟨⟨by omega, by omega⟩, ?_⟩
    refine end_of (.agg (rRow { r with props := r.props ++ [(x, y)] })) [tapeO t (k + 1 + 1 + 1)] ⟨_, _, rfl, rfl, ⟨few.path, few.tags, by show (r.props ++ _).length < _; simp; omega, fun p hp => by
      rcases List.mem_append.1 hp with hp | hp
      · exact few.vals p hp
      · rw [List.mem_singleton.1 hp]; show y.length < _; omega, few.links, few.link, few.runs, few.rn, few.loads, few.ld⟩⟩ rfl ?_
    simp +decide -dsimp -implicitDefEqProofs [go_sem, tapeO, rRow, sRow, aRow]
  rw [if_neg h2]
  by_cases h3 : v = 3
  · rw [if_pos h3]
    have ox := One_c t (k + 1) sp3Sx (by omega) (by decide) (by decide)
    have mx := sp3Sx_ok _ (oneS_mem (ss := sp3Sx) (tapeV t (k + 1)) (by decide))
    generalize oneS sp3Sx (tapeV t (k + 1)) = x at ox mx
    unfold strsV at ox
    refine callDE_frame [0] ox rfl rfl (by simp) rfl (by simp +decide -dsimp -implicitDefEqProofs [go_sem, tapeO_ren]) ?_
    simp +decide -dsimp -implicitDefEqProofs [go_sem, tapeO_ren, maxLen]
    refine ⟨⟨by omega, by omega⟩, ?_⟩
    refine end_of (.agg (rRow { r with tags := r.tags ++ [x] })) [tapeO t (k + 1 + 1)] ⟨_, _, rfl, rfl, ⟨few.path, by show (r.tags ++ _).length < _; simp; omega, few.props, few.vals, few.links, few.link, few.runs, few.rn, few.loads, few.ld⟩⟩ rfl ?_
    simp +decide -dsimp -implicitDefEqProofs [go_sem, tapeO, rRow, sRow, aRow]
  rw [if_neg h3]
  by_cases h4 : v = 4
  · rw [if_pos h4]
    have ox := One_c t (k + 1) sp4Sx (by omega) (by decide) (by decide)
    have mx := sp4Sx_ok _ (oneS_mem (ss := sp4Sx) (tapeV t (k + 1)) (by decide))
    generalize oneS sp4Sx (tapeV t (k + 1)) = x at ox mx
    unfold strsV at ox
    refine callDE_frame [0] ox rfl rfl (by simp) rfl (by simp +decide -dsimp -implicitDefEqProofs [go_sem, tapeO_ren]) ?_
    simp +decide -dsimp -implicitDefEqProofs [go_sem, tapeO_ren, maxLen]
    refine ⟨⟨by omega, by omega⟩, ?_⟩
    refine end_of (.agg (rRow { r with links := r.links ++ [x] })) [tapeO t (k + 1 + 1)] ⟨_, _, rfl, rfl, ⟨few.path, few.tags, few.props, few.vals, by show (r.links ++ _).length < _; simp; omega, fun p hp => by
      rcases List.mem_append.1 hp with hp | hp
      · exact few.link p hp
      · rw [List.mem_singleton.1 hp]; show x.length < _; omega, few.runs, few.rn, few.loads, few.ld⟩⟩ rfl ?_
    simp +decide -dsimp -implicitDefEqProofs [go_sem, tapeO, rRow, sRow, aRow]
  rw [if_neg h4]
  by_cases h5 : v = 5
  · rw [if_pos h5]
    simp +decide -dsimp -implicitDefEqProofs [go_sem, maxLen]
    refine ⟨⟨by omega, by omega⟩, ?_⟩
    have ox := One_c t (k + 1) sp5Sx (by omega) (by decide) (by decide)
    have mx := sp5Sx_ok _ (oneS_mem (ss := sp5Sx) (tapeV t (k + 1)) (by decide))
    generalize oneS sp5Sx (tapeV t (k + 1)) = x at ox mx
    unfold strsV at ox
    refine callE_frame [0] ox rfl rfl (by simp) rfl (by simp +decide -dsimp -implicitDefEqProofs [go_sem, tapeO_ren]) ?_
    simp +decide -dsimp -implicitDefEqProofs [go_sem, tapeO_ren, maxLen]
    refine ⟨⟨by omega, by omega⟩, ?_⟩
    refine end_of (.agg (rRow { r with run := r.run ++ [x] })) [tapeO t (k + 1 + 1)] ⟨_, _, rfl, rfl, ⟨few.path, few.tags, few.props, few.vals, few.links, few.link, by show (r.run ++ _).length < _; simp; omega, fun p hp => by
      rcases List.mem_append.1 hp with hp | hp
      · exact few.rn p hp
      · rw [List.mem_singleton.1 hp]; show x.length < _; omega, few.loads, few.ld⟩⟩ rfl ?_
    simp +decide -dsimp -implicitDefEqProofs [go_sem, tapeO, rRow, sRow, aRow]
  rw [if_neg h5]
  by_cases h6 : v = 6
  · rw [if_pos h6]
    simp +decide -dsimp -implicitDefEqProofs [go_sem, maxLen]
    refine ⟨⟨by omega, by omega⟩, ?_⟩
    have ox := One_c t (k + 1) sp6Sx (by omega) (by decide) (by decide)
    have mx := sp6Sx_ok _ (oneS_mem (ss := sp6Sx) (tapeV t (k + 1)) (by decide))
    generalize oneS sp6Sx (tapeV t (k + 1)) = x at ox mx
    unfold strsV at ox
    refine callE_frame [0] ox rfl rfl (by simp) rfl (by simp +decide -dsimp -implicitDefEqProofs [go_sem, tapeO_ren]) ?_
    simp +decide -dsimp -implicitDefEqProofs [go_sem, tapeO_ren, maxLen]
    refine ⟨⟨by omega, by omega⟩, ?_⟩
    refine end_of (.agg (rRow { r with load := r.load ++ [x] })) [tapeO t (k + 1 + 1)] ⟨_, _, rfl, rfl, ⟨few.path, few.tags, few.props, few.vals, few.links, few.link, few.runs, few.rn, by show (r.load ++ _).length < _; simp; omega, fun p hp => by
      rcases List.mem_append.1 hp with hp | hp
      · exact few.ld p hp
      · rw [List.mem_singleton.1 hp]; show x.length < _; omega⟩⟩ rfl ?_
    simp +decide -dsimp -implicitDefEqProofs [go_sem, tapeO, rRow, sRow, aRow]
  rw [if_neg h6]
  by_cases h7 : v = 7
  · rw [if_pos h7]
    have ox := One_c t (k + 1) sp7Sx (by omega) (by decide) (by decide)
    have mx := sp7Sx_ok _ (oneS_mem (ss := sp7Sx) (tapeV t (k + 1)) (by decide))
    generalize oneS sp7Sx (tapeV t (k + 1)) = x at ox mx
    unfold strsV at ox
    refine callE_frame [0] ox rfl rfl (by simp) rfl (by simp +decide -dsimp -implicitDefEqProofs [go_sem, tapeO_ren]) ?_
    simp +decide -dsimp -implicitDefEqProofs [go_sem, tapeO_ren]
    refine end_of (.agg (rRow { r with name := x })) [tapeO t (k + 1 + 1)] ⟨_, _, rfl, rfl, ⟨few.path, few.tags, few.props, few.vals, few.links, few.link, few.runs, few.rn, few.loads, few.ld⟩⟩ rfl ?_
    simp +decide -dsimp -implicitDefEqProofs [go_sem, tapeO, rRow, sRow, aRow]
  rw [if_neg h7]
  by_cases h8 : v = 8
  · rw [if_pos h8]
    have o2 := Next_c t (k + 1) 5 (by omega) (by omega)
    have b2 := fold_bd (tapeV t (k + 1)) 5 (by omega)
    generalize fold (tapeV t (k + 1)) 5 = y at o2 b2
    refine callE_frame [0] o2 rfl rfl (by simp) rfl (by simp +decide -dsimp -implicitDefEqProofs [go_sem, tapeO_ren]) ?_
    rcases (by omega : y = 0 ∨ y = 1 ∨ y = 2 ∨ y = 3 ∨ y = 4) with rfl | rfl | rfl | rfl | rfl
    · simp +decide -dsimp -implicitDefEqProofs [go_sem, tapeO_ren]
      refine end_of (.agg (rRow { r with prio := 1000 })) [tapeO t (k + 1 + 1)] ⟨_, _, rfl, rfl, ⟨few.path, few.tags, few.props, few.vals, few.links, few.link, few.runs, few.rn, few.loads, few.ld⟩⟩ rfl ?_
      simp +decide -dsimp -implicitDefEqProofs [go_sem, tapeO, rRow, sRow, aRow]
    · simp +decide -dsimp -implicitDefEqProofs [go_sem, tapeO_ren]
      refine end_of (.agg (rRow { r with prio := 1001 })) [tapeO t (k + 1 + 1)] ⟨_, _, rfl, rfl, ⟨few.path, few.tags, few.props, few.vals, few.links, few.link, few.runs, few.rn, few.loads, few.ld⟩⟩ rfl ?_
      simp +decide -dsimp -implicitDefEqProofs [go_sem, tapeO, rRow, sRow, aRow]
    · simp +decide -dsimp -implicitDefEqProofs [go_sem, tapeO_ren]
      refine end_of (.agg (rRow { r with prio := -1000 })) [tapeO t (k + 1 + 1)] ⟨_, _, rfl, rfl, ⟨few.path, few.tags, few.props, few.vals, few.links, few.link, few.runs, few.rn, few.loads, few.ld⟩⟩ rfl ?_
      simp +decide -dsimp -implicitDefEqProofs [go_sem, tapeO, rRow, sRow, aRow]
    · simp +decide -dsimp -implicitDefEqProofs [go_sem, tapeO_ren]
      refine end_of (.agg (rRow { r with prio := -1001 })) [tapeO t (k + 1 + 1)] ⟨_, _, rfl, rfl, ⟨few.path, few.tags, few.props, few.vals, few.links, few.link, few.runs, few.rn, few.loads, few.ld⟩⟩ rfl ?_
      simp +decide -dsimp -implicitDefEqProofs [go_sem, tapeO, rRow, sRow, aRow]
    · simp +decide -dsimp -implicitDefEqProofs [go_sem, tapeO_ren]
      refine end_of (.agg (rRow { r with prio := 0 })) [tapeO t (k + 1 + 1)] ⟨_, _, rfl, rfl, ⟨few.path, few.tags, few.props, few.vals, few.links, few.link, few.runs, few.rn, few.loads, few.ld⟩⟩ rfl ?_
      simp +decide -dsimp -implicitDefEqProofs [go_sem, tapeO, rRow, sRow, aRow]
  rw [if_neg h8]
  by_cases h9 : v = 9
  · rw [if_pos h9]
    have ox := One_c t (k + 1) sp9Sx (by omega) (by decide) (by decide)
    have mx := sp9Sx_ok _ (oneS_mem (ss := sp9Sx) (tapeV t (k + 1)) (by decide))
    generalize oneS sp9Sx (tapeV t (k + 1)) = x at ox mx
    unfold strsV at ox
    refine callE_frame [0] ox rfl rfl (by simp) rfl (by simp +decide -dsimp -implicitDefEqProofs [go_sem, tapeO_ren]) ?_
    simp +decide -dsimp -implicitDefEqProofs [go_sem, tapeO_ren]
    refine end_of (.agg (rRow { r with owner := x })) [tapeO t (k + 1 + 1)] ⟨_, _, rfl, rfl, ⟨few.path, few.tags, few.props, few.vals, few.links, few.link, few.runs, few.rn, few.loads, few.ld⟩⟩ rfl ?_
    simp +decide -dsimp -implicitDefEqProofs [go_sem, tapeO, rRow, sRow, aRow]
  rw [if_neg h9]
  by_cases h10 : v = 10
  · rw [if_pos h10]
    have ox := One_c t (k + 1) sp10Sx (by omega) (by decide) (by decide)
    have mx := sp10Sx_ok _ (oneS_mem (ss := sp10Sx) (tapeV t (k + 1)) (by decide))
    generalize oneS sp10Sx (tapeV t (k + 1)) = x at ox mx
    unfold strsV at ox
    refine callE_frame [0] ox rfl rfl (by simp) rfl (by simp +decide -dsimp -implicitDefEqProofs [go_sem, tapeO_ren]) ?_
    simp +decide -dsimp -implicitDefEqProofs [go_sem, tapeO_ren]
    refine end_of (.agg (rRow { r with group := x })) [tapeO t (k + 1 + 1)] ⟨_, _, rfl, rfl, ⟨few.path, few.tags, few.props, few.vals, few.links, few.link, few.runs, few.rn, few.loads, few.ld⟩⟩ rfl ?_
    simp +decide -dsimp -implicitDefEqProofs [go_sem, tapeO, rRow, sRow, aRow]
  rw [if_neg h10]
  by_cases h11 : v = 11
  · rw [if_pos h11]
    have o2 := Next_c t (k + 1) 4 (by omega) (by omega)
    have b2 := fold_bd (tapeV t (k + 1)) 4 (by omega)
    generalize fold (tapeV t (k + 1)) 4 = y at o2 b2
    refine callE_frame [0] o2 rfl rfl (by simp) rfl (by simp +decide -dsimp -implicitDefEqProofs [go_sem, tapeO_ren]) ?_
    rcases (by omega : y = 0 ∨ y = 1 ∨ y = 2 ∨ y = 3) with rfl | rfl | rfl | rfl
    · simp +decide -dsimp -implicitDefEqProofs [go_sem, tapeO_ren]
      refine end_of (.agg (rRow { r with mode := 0 })) [tapeO t (k + 1 + 1)] ⟨_, _, rfl, rfl, ⟨few.path, few.tags, few.props, few.vals, few.links, few.link, few.runs, few.rn, few.loads, few.ld⟩⟩ rfl ?_
      simp +decide -dsimp -implicitDefEqProofs [go_sem, tapeO, rRow, sRow, aRow]
    · simp +decide -dsimp -implicitDefEqProofs [go_sem, tapeO_ren]
      refine end_of (.agg (rRow { r with mode := 4095 })) [tapeO t (k + 1 + 1)] ⟨_, _, rfl, rfl, ⟨few.path, few.tags, few.props, few.vals, few.links, few.link, few.runs, few.rn, few.loads, few.ld⟩⟩ rfl ?_
      simp +decide -dsimp -implicitDefEqProofs [go_sem, tapeO, rRow, sRow, aRow]
    · simp +decide -dsimp -implicitDefEqProofs [go_sem, tapeO_ren]
      refine end_of (.agg (rRow { r with mode := 4096 })) [tapeO t (k + 1 + 1)] ⟨_, _, rfl, rfl, ⟨few.path, few.tags, few.props, few.vals, few.links, few.link, few.runs, few.rn, few.loads, few.ld⟩⟩ rfl ?_
      simp +decide -dsimp -implicitDefEqProofs [go_sem, tapeO, rRow, sRow, aRow]
    · simp +decide -dsimp -implicitDefEqProofs [go_sem, tapeO_ren]
      refine end_of (.agg (rRow { r with mode := -1 })) [tapeO t (k + 1 + 1)] ⟨_, _, rfl, rfl, ⟨few.path, few.tags, few.props, few.vals, few.links, few.link, few.runs, few.rn, few.loads, few.ld⟩⟩ rfl ?_
      simp +decide -dsimp -implicitDefEqProofs [go_sem, tapeO, rRow, sRow, aRow]
  rw [if_neg h11]
  by_cases h12 : v = 12
  · rw [if_pos h12]
    have o2 := Next_c t (k + 1) 3 (by omega) (by omega)
    have b2 := fold_bd (tapeV t (k + 1)) 3 (by omega)
    generalize fold (tapeV t (k + 1)) 3 = f at o2 b2
    have w1 : IntKind.i64.wrap (f + 63) = f + 63 := w64 (by omega) (by omega)
    have w2 : IntKind.i64.wrap (f + 63 - (r.props.length : Int)) = f + 63 - r.props.length := w64 (by omega) (by omega)
    refine callDE_frame [0] o2 rfl rfl (by simp) rfl (by simp +decide -dsimp -implicitDefEqProofs [go_sem, tapeO_ren]) ?_
    simp +decide -dsimp -implicitDefEqProofs [go_sem, tapeO_ren, w1, w2]
    refine loop_of (S := Int × List (List UInt8 × List UInt8)) (fun s => ⟨tmps 225 [(0, .ptr 0 0), (3, .ptr 1 0), (4, .ptr 2 0), (5, .int .i64 s.1)], [tapeO t (k + 1 + 1), .box 26 [.str r.path, .int .i64 r.index, .own 3 s.2.length, .own 4 r.tags.length, .own 5 r.links.length, .imm (r.run.map sRow), .imm (r.load.map sRow), .str r.name, .int .i64 r.prio, .str r.owner, .str r.group, .int .i64 r.mode], .box 26 [.str [], .int .i64 0, .nils, .nils, .nils, .nils, .nils, .str [], .int .i64 0, .str [], .str [], .int .i64 0], .reg 57 2 (s.2.map aRow), .reg 9 1 (r.tags.map sRow), .reg 9 1 (r.links.map sRow)]⟩) (fun s => s.1.toNat)
      (fun s => s.1 ≤ 70 ∧ s.2.length + s.1.toNat ≤ 140 ∧ ∀ x ∈ s.2, x.2.length ≤ 256) (f + 63 - r.props.length, r.props) ⟨by show _ ≤ _; omega, by show r.props.length + (f + 63 - (r.props.length : Int)).toNat ≤ 140; omega, fun x hx => (hr.attr x hx).2⟩ (cut_of (by simp) ?_) ?_
    · simp +decide -dsimp -implicitDefEqProofs [go_sem, tapeO]
    rintro ⟨c, l⟩ ⟨hc, hl, hv⟩
    simp only at hc hl hv
    by_cases h : 0 < c
    · obtain ⟨m, rfl⟩ : ∃ m : Nat, c = m := ⟨c.toNat, by omega⟩
      have d1 : IntKind.i64.wrap ((m : Int) / 26) = (m : Int) / 26 := w64 (by omega) (by omega)
      have d1' : (m : Int).tdiv 26 = (m : Int) / 26 := Int.tdiv_eq_ediv_of_nonneg (by omega)
      have d2 : (m : Int).tmod 26 = (m : Int) % 26 := Int.tmod_eq_emod_of_nonneg (by omega)
      have d3 : IntKind.i64.wrap (65 + (m : Int) / 26) = 65 + (m : Int) / 26 := w64 (by omega) (by omega)
      have d4 : IntKind.i64.wrap (65 + (m : Int) % 26) = 65 + (m : Int) % 26 := w64 (by omega) (by omega)
      have d5 : IntKind.u8.wrap (65 + (m : Int) / 26) = 65 + (m : Int) / 26 := by rw [IntKind.wrap_u8]; omega
      have d6 : IntKind.u8.wrap (65 + (m : Int) % 26) = 65 + (m : Int) % 26 := by rw [IntKind.wrap_u8]; omega
      have d7 : IntKind.i64.wrap ((m : Int) - 1) = (m : Int) - 1 := w64 (by omega) (by omega)
      have hu : unb [[AV.int .u8 (65 + (m : Int) / 26)], [AV.int .u8 (65 + (m : Int) % 26)]] = some [UInt8.ofNat (65 + m / 26), UInt8.ofNat (65 + m % 26)] := by
        have := unb_two (n := 65 + m / 26) (m := 65 + m % 26) (by omega) (by omega)
        rwa [show ((65 + m / 26 : Nat) : Int) = 65 + (m : Int) / 26 by omega, show ((65 + m % 26 : Nat) : Int) = 65 + (m : Int) % 26 by omega] at this
      obtain ⟨nm, hnm⟩ : ∃ nm : List UInt8, nm = [UInt8.ofNat (65 + m / 26), UInt8.ofNat (65 + m % 26)] := ⟨_, rfl⟩
      rw [← hnm] at hu
      have hnl : nm.length = 2 := by rw [hnm]; rfl
      clear hnm
      have h' : 0 < m := by omega
      simp +decide -dsimp -implicitDefEqProofs [go_sem, h', d1, d1', d2, d3, d4, d5, d6, d7, hu, maxLen]
      refine ⟨by omega, ⟨by omega, by omega⟩, ?_⟩
      have eR : l.map aRow ++ [[AV.str (84 :: nm), AV.str [49]]] = (l ++ [(84 :: nm, [49])]).map aRow := by simp [aRow]
      rw [eR]
      refine next_of ((m : Int) - 1, l ++ [(84 :: nm, [49])]) ⟨by show _ ≤ _; omega, by show (l ++ _).length + Int.toNat _ ≤ _; simp; omega, fun x hx => ?_⟩ (by show Int.toNat _ < Int.toNat _; omega) (cut_of (by simp) ?_)
      · rcases List.mem_append.1 hx with hx | hx
        · exact hv x hx
        · rw [List.mem_singleton.1 hx]; simp
      simp +decide -dsimp -implicitDefEqProofs [go_sem, tapeO, aRow]
    have h' : ¬ (0 : Int) < c := h
    simp +decide -dsimp -implicitDefEqProofs [go_sem, h']
    obtain ⟨n0, hn0⟩ : ∃ n0, n0 = l.length := ⟨_, rfl⟩
    have hn1 : n0 ≤ 140 := by omega
    rw [← hn0]
    refine loop_of (S := Nat × List (List UInt8 × List UInt8)) (fun s => ⟨tmps 225 [(0, .ptr 0 0), (3, .ptr 1 0), (4, .ptr 2 0), (178, .int .i64 n0), (179, .int .i64 s.1)], [tapeO t (k + 1 + 1), .box 26 [.str r.path, .int .i64 r.index, .own 3 n0, .own 4 r.tags.length, .own 5 r.links.length, .imm (r.run.map sRow), .imm (r.load.map sRow), .str r.name, .int .i64 r.prio, .str r.owner, .str r.group, .int .i64 r.mode], .box 26 [.str [], .int .i64 0, .nils, .nils, .nils, .nils, .nils, .str [], .int .i64 0, .str [], .str [], .int .i64 0], .reg 57 2 (s.2.map aRow), .reg 9 1 (r.tags.map sRow), .reg 9 1 (r.links.map sRow)]⟩) (fun s => n0 - s.1)
      (fun s => s.1 ≤ n0 ∧ s.2.length = n0 ∧ ∀ x ∈ s.2, x.2.length ≤ 256) (0, l) ⟨by simp, hn0.symm, hv⟩ (cut_of (by simp) ?_) ?_
    · simp +decide -dsimp -implicitDefEqProofs [go_sem, tapeO, hn0]
    clear hn0 hl hv h h' hc
    rintro ⟨i, l⟩ ⟨hi, hl, hv⟩
    simp only at hi hl hv
    by_cases h : i < n0
    rotate_left
    · have e : i = n0 := by omega
      subst e
      simp +decide -dsimp -implicitDefEqProofs [go_sem]
      refine end_of (.agg (rRow { r with props := l })) [tapeO t (k + 1 + 1)] ⟨_, _, rfl, rfl, ⟨few.path, few.tags, by show l.length < _; omega, fun x hx => by have := hv x hx; omega, few.links, few.link, few.runs, few.rn, few.loads, few.ld⟩⟩ rfl ?_
      simp +decide -dsimp -implicitDefEqProofs [go_sem, tapeO, rRow, hl]
    have w1 : IntKind.i64.wrap ((i : Int) + 1) = i + 1 := w64 (by omega) (by omega)
    simp +decide -dsimp -implicitDefEqProofs [go_sem, h]
    refine loop_of (S := Nat × List (List UInt8 × List UInt8)) (fun s => ⟨tmps 225 [(0, .ptr 0 0), (3, .ptr 1 0), (4, .ptr 2 0), (7, .int .i64 s.1), (178, .int .i64 n0), (179, .int .i64 i)], [tapeO t (k + 1 + 1), .box 26 [.str r.path, .int .i64 r.index, .own 3 n0, .own 4 r.tags.length, .own 5 r.links.length, .imm (r.run.map sRow), .imm (r.load.map sRow), .str r.name, .int .i64 r.prio, .str r.owner, .str r.group, .int .i64 r.mode], .box 26 [.str [], .int .i64 0, .nils, .nils, .nils, .nils, .nils, .str [], .int .i64 0, .str [], .str [], .int .i64 0], .reg 57 2 (s.2.map aRow), .reg 9 1 (r.tags.map sRow), .reg 9 1 (r.links.map sRow)]⟩) (fun s => s.1)
      (fun s => s.1 ≤ i ∧ s.2.length = n0 ∧ ∀ x ∈ s.2, x.2.length ≤ 256) (i, l) ⟨by simp, hl, hv⟩ (cut_of (by simp) ?_) ?_
    · simp +decide -dsimp -implicitDefEqProofs [go_sem, tapeO]
    clear hl hv
    rintro ⟨j, l⟩ ⟨hj, hl, hv⟩
    simp only at hj hl hv
    by_cases hj0 : j = 0
    · subst hj0
      simp +decide -dsimp -implicitDefEqProofs [go_sem, w1]
      refine next_of (i + 1, l) ⟨by show i + 1 ≤ n0; omega, hl, hv⟩ (by show n0 - (i + 1) < n0 - i; omega) (cut_of (by simp) ?_)
      simp +decide -dsimp -implicitDefEqProofs [go_sem, tapeO]
    obtain ⟨q, rfl⟩ : ∃ q, j = q + 1 := ⟨j - 1, by omega⟩
    have p1 : (0 : Int) < (q : Int) + 1 := by omega
    have p2 : (0 : Int) ≤ (q : Int) + 1 := by omega
    have p3 : ((q : Int) + 1).toNat = q + 1 := by omega
    have p4 : IntKind.i64.wrap (q : Int) = q := w64 (by omega) (by omega)
    have p5 : q + 1 < n0 := by omega
    have p6 : q < n0 := by omega
    have p7 : q + 1 < l.length := by omega
    have p8 : q < l.length := by omega
    by_cases hlt : Op.bytesLess l[q + 1].1 l[q].1 = true
    · simp +decide -dsimp -implicitDefEqProofs [go_sem, p1, p2, p3, p4, p5, p6, hl, hlt]
      have eR : ((l.map aRow).set (q + 1) (aRow l[q] ++ List.drop 2 (aRow l[q + 1]))).set q (aRow l[q + 1] ++ List.drop 2 (aRow l[q])) = ((l.set (q + 1) l[q]).set q l[q + 1]).map aRow := by
        have e1 : ∀ x, List.drop 2 (aRow x) = [] := fun x => rfl
        rw [e1, e1, List.append_nil, List.append_nil, List.map_set, List.map_set]
      rw [eR]
      refine next_of (q, (l.set (q + 1) l[q]).set q l[q + 1]) ⟨by show q ≤ i; omega, by simp [hl], fun x hx => ?_⟩ (by show q < q + 1; omega) (cut_of (by simp) ?_)
      · rcases List.mem_or_eq_of_mem_set hx with hx | rfl
        · rcases List.mem_or_eq_of_mem_set hx with hx | rfl
          · exact hv x hx
          · exact hv _ (List.getElem_mem _)
        · exact hv _ (List.getElem_mem _)
      simp +decide -dsimp -implicitDefEqProofs [go_sem, tapeO, -List.map_set]
    · simp +decide -dsimp -implicitDefEqProofs [go_sem, p1, p2, p3, p4, p5, p6, hl, hlt, w1]
      refine next_of (i + 1, l) ⟨by show i + 1 ≤ n0; omega, hl, hv⟩ (by show n0 - (i + 1) < n0 - i; omega) (cut_of (by simp) ?_)
      simp +decide -dsimp -implicitDefEqProofs [go_sem, tapeO]
  rw [if_neg h12]
  refine loop_of (S := Nat × Nat) (fun s => ⟨tmps 225 [(0, .ptr 0 0), (3, .ptr 1 0), (4, .ptr 2 0), (8, .int .i64 s.1)], [tapeO t s.2, .box 26 [.str r.path, .int .i64 r.index, .own 3 r.props.length, .own 6 s.1, .own 5 r.links.length, .imm (r.run.map sRow), .imm (r.load.map sRow), .str r.name, .int .i64 r.prio, .str r.owner, .str r.group, .int .i64 r.mode], .box 26 [.str [], .int .i64 0, .nils, .nils, .nils, .nils, .nils, .str [], .int .i64 0, .str [], .str [], .int .i64 0], .reg 57 2 (r.props.map aRow), .reg 9 1 (r.tags.map sRow), .reg 9 1 (r.links.map sRow), .reg 9 1 ((tagsT s.1).map sRow)]⟩) (fun s => 18 - s.1)
    (fun s => s.1 ≤ 17 ∧ s.2 ≤ k + 1 + s.1) (0, k + 1) (by simp) ((Wk.nilB 1 3 9 1 rfl rfl (by simp)).trans (cut_of (by simp) ?_)) ?_
  · simp +decide -dsimp -implicitDefEqProofs [go_sem, tapeO, tagsT]
  rintro ⟨i, kk⟩ ⟨hi, hkk⟩
  simp only at hi hkk
  have o2 := Next_c t kk 3 (by omega) (by omega)
  have b2 := fold_bd (tapeV t kk) 3 (by omega)
  generalize fold (tapeV t kk) 3 = f at o2 b2
  have w1 : IntKind.i64.wrap (15 + f) = 15 + f := w64 (by omega) (by omega)
  have w2 : IntKind.i64.wrap ((i : Int) + 1) = i + 1 := w64 (by omega) (by omega)
  have w3 : IntKind.i64.wrap (97 + (i : Int)) = 97 + i := w64 (by omega) (by omega)
  have w4 : IntKind.u8.wrap (97 + (i : Int)) = 97 + i := by rw [IntKind.wrap_u8]; omega
  have hu : unb [[AV.int .u8 (97 + (i : Int))]] = some [UInt8.ofNat (97 + i)] := by have := unb_one (n := 97 + i) (by omega); rwa [show ((97 + i : Nat) : Int) = 97 + (i : Int) by omega] at this
  have hl := tagsT_len i
  obtain ⟨ch, hch⟩ : ∃ ch, ch = UInt8.ofNat (97 + i) := ⟨_, rfl⟩
  rw [← hch] at hu
  simp +decide -dsimp -implicitDefEqProofs [go_sem]
  refine callE_frame [0] o2 rfl rfl (by simp) rfl (by simp +decide -dsimp -implicitDefEqProofs [go_sem, tapeO_ren]) ?_
  by_cases hc : (i : Int) < 15 + f
  · simp +decide -dsimp -implicitDefEqProofs [go_sem, tapeO_ren, w1, hc, w2, w3, w4, hu, hl, maxLen]
    refine ⟨⟨by omega, by omega⟩, ?_⟩
    have eR : (tagsT i).map sRow ++ [[AV.str [116, ch]]] = (tagsT (i + 1)).map sRow := by rw [tagsT_succ, hch]; simp [sRow, tagT]
    rw [eR]
    refine next_of (i + 1, kk + 1) ⟨by show i + 1 ≤ 17; omega, by show kk + 1 ≤ _; omega⟩ (by show 18 - (i + 1) < 18 - i; omega) (cut_of (by simp) ?_)
    simp +decide -dsimp -implicitDefEqProofs [go_sem, tapeO]
  · simp +decide -dsimp -implicitDefEqProofs [go_sem, tapeO_ren, w1, hc]
    refine end_of (.agg (rRow { r with tags := tagsT i })) [tapeO t (kk + 1)] ⟨_, _, rfl, rfl, ⟨few.path, by show (tagsT i).length < _; omega, few.props, few.vals, few.links, few.link, few.runs, few.rn, few.loads, few.ld⟩⟩ rfl ?_
    simp +decide -dsimp -implicitDefEqProofs [go_sem, tapeO, rRow, hl]
end Go.Ab
