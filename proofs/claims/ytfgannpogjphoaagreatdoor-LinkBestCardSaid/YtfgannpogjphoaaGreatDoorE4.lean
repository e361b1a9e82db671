/- A layer of abstract values over the model, and what is proved with it: part E4. -/
import Derived.Test.YtfgannpogjphoaaGreatDoorC1
import Derived.Test.YtfgannpogjphoaaGreatDoorEB
namespace Go.Ab
open Go Go.Proofs
def c4 : AFn := ⟨(.seq (.ops [⟨(some 2), (.mov (.v (.bool false))), none⟩]) (.seq (.ops [⟨(some 14), (.mov (.t 0)), none⟩, ⟨(some 15), (.build [.nils, (.int .i64 0)] [(0, (1, (.t 14)))]), none⟩, ⟨(some 16), (.box 25 (.t 15)), none⟩, ⟨(some 3), (.mov (.t 16)), none⟩]) (.seq (.ops [⟨(some 17), (.call (.v (.fn (.func 10) [] [])) []), none⟩, ⟨(some 4), (.mov (.t 17)), none⟩]) (.seq (.seq (.ops [⟨(some 18), (.call (.v (.fn (.func 11) [] [])) []), none⟩, ⟨(some 19), (.un .not (.t 18)), none⟩, ⟨(some 20), (.mov (.t 19)), none⟩, ⟨(some 21), (.mov (.t 4)), (some (20, false))⟩, ⟨(some 22), (.ext (.pnil false) [(.t 21)]), (some (20, false))⟩, ⟨(some 23), (.pick (.t 20) (.v (.bool true)) (.t 22)), none⟩]) (.cond (.t 23) (.seq (.ops [⟨(some 2), (.mov (.v (.bool false))), none⟩]) .ret) .skip)) (.seq (.seq (.ops [⟨(some 24), (.mov (.t 3)), none⟩, ⟨(some 25), (.call (.v (.fn (.func 14) [] [])) [(.t 24), (.v (.int .i64 10))]), none⟩, ⟨(some 5), (.mov (.t 25)), none⟩]) (.block 0 (.loop (.seq (.seq (.ops [⟨(some 26), (.mov (.t 5)), none⟩, ⟨(some 27), (.bin .gtr (.t 26) (.v (.int .i64 0))), none⟩]) (.cond (.t 27) .skip (.exit 0))) (.seq (.block 1 (.ops [⟨(some 30), (.mov (.t 4)), none⟩, ⟨(some 31), (.mov (.t 3)), none⟩, ⟨(some 32), (.call (.v (.fn (.func 12) [] [])) [(.t 31)]), none⟩, ⟨(some 33), (.call (.v (.fn (.func 20) [] [])) [(.t 30), (.t 32)]), none⟩])) (.ops [⟨(some 28), (.mov (.t 5)), none⟩, ⟨(some 29), (.bin .sub (.t 28) (.v (.int .i64 1))), none⟩, ⟨(some 5), (.mov (.t 29)), none⟩])))))) (.seq (.ops [⟨(some 34), (.mov (.t 4)), none⟩, ⟨(some 35), (.call (.v (.fn (.func 17) [] [])) [(.t 34)]), none⟩, ⟨(some 36), (.mov (.t 4)), none⟩, ⟨(some 37), (.call (.v (.fn (.func 21) [] [])) [(.t 36)]), none⟩, ⟨(some 6), (.mov (.t 35)), none⟩, ⟨(some 7), (.mov (.t 37)), none⟩]) (.seq (.seq (.ops [⟨(some 8), (.mov (.v (.int .i64 0))), none⟩]) (.block 2 (.loop (.seq (.seq (.ops [⟨(some 38), (.mov (.t 8)), none⟩, ⟨(some 39), (.mov (.t 6)), none⟩, ⟨(some 40), (.len .sl (.t 39)), none⟩, ⟨(some 41), (.bin .lss (.t 38) (.t 40)), none⟩]) (.cond (.t 41) .skip (.exit 2))) (.seq (.block 3 (.seq (.ops [⟨(some 9), (.mov (.v (.int .i64 (-1)))), none⟩]) (.seq (.seq (.ops [⟨(some 10), (.mov (.v (.int .i64 0))), none⟩]) (.block 4 (.loop (.seq (.seq (.ops [⟨(some 44), (.mov (.t 10)), none⟩, ⟨(some 45), (.mov (.t 7)), none⟩, ⟨(some 46), (.len .sl (.t 45)), none⟩, ⟨(some 47), (.bin .lss (.t 44) (.t 46)), none⟩]) (.cond (.t 47) .skip (.exit 4))) (.seq (.block 5 (.seq (.draw [⟨(some 50), (.mov (.t 7)), none⟩, ⟨(some 51), (.mov (.t 10)), none⟩, ⟨(some 52), (.iaddr none 4 (.t 50) (.t 51)), none⟩, ⟨(some 53), (.faddr 0 (.t 52)), none⟩, ⟨(some 54), (.load none (.t 53)), none⟩, ⟨(some 55), (.mov (.t 6)), none⟩, ⟨(some 56), (.mov (.t 8)), none⟩, ⟨(some 57), (.iaddr none 3 (.t 55) (.t 56)), none⟩, ⟨(some 58), (.faddr 0 (.t 57)), none⟩, ⟨(some 59), (.load none (.t 58)), none⟩, ⟨(some 60), (.bin .eql (.t 54) (.t 59)), none⟩, ⟨(some 61), (.mov (.t 60)), none⟩, ⟨(some 62), (.mov (.t 7)), (some (61, true))⟩, ⟨(some 63), (.mov (.t 10)), (some (61, true))⟩, ⟨(some 64), (.iaddr none 4 (.t 62) (.t 63)), (some (61, true))⟩, ⟨(some 65), (.faddr 1 (.t 64)), (some (61, true))⟩, ⟨(some 66), (.load none (.t 65)), (some (61, true))⟩, ⟨(some 67), (.mov (.t 6)), (some (61, true))⟩, ⟨(some 68), (.mov (.t 8)), (some (61, true))⟩, ⟨(some 69), (.iaddr none 3 (.t 67) (.t 68)), (some (61, true))⟩, ⟨(some 70), (.faddr 2 (.t 69)), (some (61, true))⟩, ⟨(some 71), (.load none (.t 70)), (some (61, true))⟩, ⟨(some 72), (.bin .eql (.t 66) (.t 71)), (some (61, true))⟩, ⟨(some 73), (.pick (.t 61) (.t 72) (.v (.bool false))), none⟩, ⟨(some 74), (.mov (.t 73)), none⟩, ⟨(some 75), (.mov (.t 7)), (some (74, true))⟩, ⟨(some 76), (.mov (.t 10)), (some (74, true))⟩, ⟨(some 77), (.iaddr none 4 (.t 75) (.t 76)), (some (74, true))⟩, ⟨(some 78), (.faddr 2 (.t 77)), (some (74, true))⟩, ⟨(some 79), (.load none (.t 78)), (some (74, true))⟩, ⟨(some 80), (.mov (.t 6)), (some (74, true))⟩, ⟨(some 81), (.mov (.t 8)), (some (74, true))⟩, ⟨(some 82), (.iaddr none 3 (.t 80) (.t 81)), (some (74, true))⟩, ⟨(some 83), (.faddr 1 (.t 82)), (some (74, true))⟩, ⟨(some 84), (.load none (.t 83)), (some (74, true))⟩, ⟨(some 85), (.bin .eql (.t 79) (.t 84)), (some (74, true))⟩, ⟨(some 86), (.pick (.t 74) (.t 85) (.v (.bool false))), none⟩] [0, 0, 3, 7, 15, 0, 0, 96, 224, 480, 1023, 2047, 4095, 4095, 16383, 32767, 65535, 4095, 4095, 397311, 921599, 1970175, 4194303, 8388607, 16777215, 33554431, 33554431, 134217727, 268435455, 536870911, 33554431, 33554431, 3254779903, 7549747199, 16139681791, 34359738367, 68719476735]) (.cond (.t 86) (.ops [⟨(some 87), (.mov (.t 10)), none⟩, ⟨(some 9), (.mov (.t 87)), none⟩]) .skip))) (.ops [⟨(some 48), (.mov (.t 10)), none⟩, ⟨(some 49), (.bin .add (.t 48) (.v (.int .i64 1))), none⟩, ⟨(some 10), (.mov (.t 49)), none⟩])))))) (.seq (.seq (.ops [⟨(some 88), (.mov (.t 9)), none⟩, ⟨(some 89), (.bin .lss (.t 88) (.v (.int .i64 0))), none⟩]) (.cond (.t 89) (.seq (.ops [⟨(some 2), (.mov (.v (.bool false))), none⟩]) .ret) .skip)) (.seq (.ops [⟨(some 11), (.mov (.v (.int .i64 0))), none⟩]) (.block 6 (.loop (.seq (.seq (.ops [⟨(some 90), (.mov (.t 11)), none⟩, ⟨(some 91), (.mov (.t 7)), none⟩, ⟨(some 92), (.len .sl (.t 91)), none⟩, ⟨(some 93), (.bin .lss (.t 90) (.t 92)), none⟩]) (.cond (.t 93) .skip (.exit 6))) (.seq (.block 7 (.seq (.draw [⟨(some 97), (.mov (.t 7)), none⟩, ⟨(some 98), (.mov (.t 11)), none⟩, ⟨(some 99), (.iaddr none 4 (.t 97) (.t 98)), none⟩, ⟨(some 100), (.faddr 1 (.t 99)), none⟩, ⟨(some 101), (.load none (.t 100)), none⟩, ⟨(some 102), (.mov (.t 6)), none⟩, ⟨(some 103), (.mov (.t 8)), none⟩, ⟨(some 104), (.iaddr none 3 (.t 102) (.t 103)), none⟩, ⟨(some 105), (.faddr 2 (.t 104)), none⟩, ⟨(some 106), (.load none (.t 105)), none⟩, ⟨(some 107), (.call (.v (.fn (.func 22) [] [])) [(.t 101), (.t 106)]), none⟩, ⟨(some 96), (.mov (.t 107)), none⟩, ⟨(some 108), (.extract (.t 96) 0), none⟩, ⟨(some 109), (.extract (.t 96) 1), none⟩, ⟨(some 12), (.mov (.t 108)), none⟩, ⟨(some 13), (.mov (.t 109)), none⟩] [0, 0, 3, 7, 15, 0, 0, 96, 224, 480, 1023, 2047, 4095, 4095, 8191, 32767]) (.seq (.draw [⟨(some 110), (.mov (.t 13)), none⟩, ⟨(some 111), (.bin .neq (.t 110) (.v (.int .i64 0))), none⟩, ⟨(some 112), (.mov (.t 111)), none⟩, ⟨(some 113), (.mov (.t 7)), (some (112, false))⟩, ⟨(some 114), (.mov (.t 11)), (some (112, false))⟩, ⟨(some 115), (.iaddr none 4 (.t 113) (.t 114)), (some (112, false))⟩, ⟨(some 116), (.faddr 0 (.t 115)), (some (112, false))⟩, ⟨(some 117), (.load none (.t 116)), (some (112, false))⟩, ⟨(some 118), (.mov (.t 6)), (some (112, false))⟩, ⟨(some 119), (.mov (.t 8)), (some (112, false))⟩, ⟨(some 120), (.iaddr none 3 (.t 118) (.t 119)), (some (112, false))⟩, ⟨(some 121), (.faddr 0 (.t 120)), (some (112, false))⟩, ⟨(some 122), (.load none (.t 121)), (some (112, false))⟩, ⟨(some 123), (.bin .eql (.t 117) (.t 122)), (some (112, false))⟩, ⟨(some 124), (.mov (.t 123)), (some (112, false))⟩, ⟨(some 125), (.mov (.t 7)), (some (124, true))⟩, ⟨(some 126), (.mov (.t 11)), (some (124, true))⟩, ⟨(some 127), (.iaddr none 4 (.t 125) (.t 126)), (some (124, true))⟩, ⟨(some 128), (.faddr 3 (.t 127)), (some (124, true))⟩, ⟨(some 129), (.load none (.t 128)), (some (124, true))⟩, ⟨(some 130), (.mov (.t 7)), (some (124, true))⟩, ⟨(some 131), (.mov (.t 9)), (some (124, true))⟩, ⟨(some 132), (.iaddr none 4 (.t 130) (.t 131)), (some (124, true))⟩, ⟨(some 133), (.faddr 3 (.t 132)), (some (124, true))⟩, ⟨(some 134), (.load none (.t 133)), (some (124, true))⟩, ⟨(some 135), (.bin .gtr (.t 129) (.t 134)), (some (124, true))⟩, ⟨(some 136), (.mov (.t 135)), (some (124, true))⟩, ⟨(some 137), (.mov (.t 7)), (some (136, false))⟩, ⟨(some 138), (.mov (.t 11)), (some (136, false))⟩, ⟨(some 139), (.iaddr none 4 (.t 137) (.t 138)), (some (136, false))⟩, ⟨(some 140), (.faddr 3 (.t 139)), (some (136, false))⟩, ⟨(some 141), (.load none (.t 140)), (some (136, false))⟩, ⟨(some 142), (.mov (.t 7)), (some (136, false))⟩, ⟨(some 143), (.mov (.t 9)), (some (136, false))⟩, ⟨(some 144), (.iaddr none 4 (.t 142) (.t 143)), (some (136, false))⟩, ⟨(some 145), (.faddr 3 (.t 144)), (some (136, false))⟩, ⟨(some 146), (.load none (.t 145)), (some (136, false))⟩, ⟨(some 147), (.bin .eql (.t 141) (.t 146)), (some (136, false))⟩, ⟨(some 148), (.mov (.t 147)), (some (136, false))⟩, ⟨(some 149), (.mov (.t 12)), (some (148, true))⟩, ⟨(some 150), (.bin .lss (.t 149) (.v (.int .i64 0))), (some (148, true))⟩, ⟨(some 151), (.pick (.t 148) (.t 150) (.v (.bool false))), (some (136, false))⟩, ⟨(some 152), (.pick (.t 136) (.v (.bool true)) (.t 151)), (some (124, true))⟩, ⟨(some 153), (.pick (.t 124) (.t 152) (.v (.bool false))), (some (112, false))⟩, ⟨(some 154), (.pick (.t 112) (.v (.bool true)) (.t 153)), none⟩] [0, 1, 3, 7, 7, 31, 63, 127, 7, 7, 775, 1799, 3847, 8191, 16383, 32767, 32767, 131071, 262143, 524287, 32767, 32767, 3178495, 7372799, 15761407, 33554431, 67108863, 134217727, 134217727, 536870911, 1073741823, 2147483647, 134217727, 134217727, 13019119615, 30198988799, 64558727167, 137438953471, 274877906943, 549755813887, 1099511627775, 2199023255551, 4398046511103, 8796093022207, 17592186044415]) (.cond (.t 154) (.seq (.ops [⟨(some 2), (.mov (.v (.bool false))), none⟩]) .ret) .skip)))) (.ops [⟨(some 94), (.mov (.t 11)), none⟩, ⟨(some 95), (.bin .add (.t 94) (.v (.int .i64 1))), none⟩, ⟨(some 11), (.mov (.t 95)), none⟩])))))))))) (.ops [⟨(some 42), (.mov (.t 8)), none⟩, ⟨(some 43), (.bin .add (.t 42) (.v (.int .i64 1))), none⟩, ⟨(some 8), (.mov (.t 43)), none⟩])))))) (.seq (.ops [⟨(some 2), (.mov (.v (.bool true))), none⟩]) .ret)))))))), 155, [(.tmp 2)]⟩
theorem c4_ok : compileF Tryz.prog [] 4 = some c4 := by kernel_rfl
end Go.Ab
namespace Go.Ab
open Go Go.Proofs Go.Sort
set_option maxRecDepth 20000
set_option maxHeartbeats 16000000 in
theorem LinkBest_c (l : List Int) : ACalls Tryz.prog 4 [tapeVs l] [] (.bool true) [] := by
  have b0 := fold_bd (tapeV l 0) 10 (by omega)
  obtain ⟨n, hn⟩ : ∃ n : Nat, fold (tapeV l 0) 10 = n := ⟨_, (Int.toNat_of_nonneg b0.1).symm⟩
  have c0 := Next_c l 0 10 (by omega) (by omega)
  rw [hn] at b0 c0
  have hmc := own_clm
  have hmr := own_renK
  have hlr := renLL_lkRows
  have hlc := closedLL_lkRows
  have hlc2 := closedLL_clRows
  have hcr2 := renLL_clRows
  have hck : ∀ x : Cl, clRow x = [.str x.link, .str x.path, .str x.node, .int .i64 x.prio] := fun _ => rfl
  have hlk : ∀ x : Lk, lkRow x = [.str x.name, .str x.node, .str x.path] := fun _ => rfl
  refine acalls_F c4_ok rfl ?_
  unfold c4 tapeVs
  simp +decide -dsimp -implicitDefEqProofs [go_sem]
  rw [tape0]
  refine callE_grow [] 2 new_c rfl (fun v G h => by rw [h.2]; rfl) (by show (List.range' 1 2).Nodup; decide) rfl (by simp) ?_
  rintro _ _ ⟨rfl, rfl⟩
  unfold tbO
  simp +decide -dsimp -implicitDefEqProofs [go_sem, hmr, show List.range' 1 2 = [1, 2] from rfl]
  refine callE_pure known_c rfl rfl ?_
  simp +decide -dsimp -implicitDefEqProofs [go_sem]
  refine callE_frame [0] c0 rfl rfl (by simp) (by simp +decide -dsimp -implicitDefEqProofs [go_sem]) (by simp +decide -dsimp -implicitDefEqProofs [go_sem, tapeO_ren]) ?_
  simp +decide -dsimp -implicitDefEqProofs [go_sem, tapeO_ren]
  refine loop_of (S := RT) (fun s => ⟨tmps 155 [(3, .ptr 0 0), (4, .ptr 2 0), (5, .int .i64 ((n - s.i : Nat) : Int))], [tapeO l s.k, .map (smK ownV s.m), .box 68 [.map 1]]⟩) (fun s => n - s.i) (RT.ok n) ⟨0, 1, [], []⟩ ⟨by simp, by simp, .nil⟩ (cut_of (by simp) ?_) ?_
  · simp +decide -dsimp -implicitDefEqProofs [go_sem, tapeO]
  rintro ⟨i, k, m, w⟩ ⟨hi, hk, hT⟩
  simp only at hi hk hT
  by_cases h : i < n
  · have h' : 0 < n - i := by omega
    have wi : IntKind.i64.wrap (((n - i : Nat) : Int) - 1) = ((n - (i + 1) : Nat) : Int) := by rw [w64 (by omega) (by omega)]; omega
    simp +decide -dsimp -implicitDefEqProofs [go_sem, h']
    refine callE_frameR [0] (some_c l k (by omega)) rfl (fun v G ⟨_, _, _, hG, _⟩ => by rw [hG]; rfl) (by simp) (by simp +decide -dsimp -implicitDefEqProofs [go_sem]) (by simp +decide -dsimp -implicitDefEqProofs [go_sem, tapeO_ren]) ?_
    rintro _ _ ⟨c, k', rfl, rfl, hc, hk'⟩
    have cd := do_c few_s hT (by omega) c hc
    have hcr : ∀ is, renL is (calRow c) = calRow c := fun is => by simp [calRow, renL, ren, renLL_sRows]
    unfold tbO at cd
    simp +decide -dsimp -implicitDefEqProofs [go_sem, tapeO_ren, hcr]
    refine callE_frameR [1, 2] cd rfl (fun v G ⟨_, _, hG, _⟩ => by rw [hG]; rfl) (by simp) (by simp +decide -dsimp -implicitDefEqProofs [go_sem, hcr]) (by simp +decide -dsimp -implicitDefEqProofs [go_sem, hmr]) ?_
    rintro _ _ ⟨m', rfl, rfl, hT'⟩
    unfold tbO
    simp +decide -dsimp -implicitDefEqProofs [go_sem, hmr, wi]
    refine next_of ⟨i + 1, k', m', calW w c⟩ ⟨by show i + 1 ≤ n; omega, by show k' ≤ 1 + 20 * (i + 1); omega, hT'⟩ (by show n - (i + 1) < n - i; omega) (cut_of (by simp) ?_)
    simp +decide -dsimp -implicitDefEqProofs [go_sem, tapeO]
    exact hmc _ _
  have e : i = n := by omega
  subst e
  have cL := Links_c few_s hT (by omega)
  have hml := hT.ml
  have hR := hT.res
  have hml := hT.ml
  have hwl := hT.wl few_s
  have hLl := hT.kl few_s
  have hll := hT.ll few_s
  have cC := Claims_c hT.t (by omega) hwl (fun d hd => by have := hll d hd; omega)
  have hCl : (clm w).length ≤ 12 * 12 := Nat.le_trans (clm_len hll) (Nat.mul_le_mul_right _ hwl)
  have hbest := fun x hx => best_at hT.t hR (x := x) hx
  have hpl := (clm_ok pord hT.t.toTabW).1
  unfold tbO at cL cC
  simp +decide -dsimp -implicitDefEqProofs [go_sem]
  refine callE_frame [1, 2] cL rfl rfl (by simp) (by simp +decide -dsimp -implicitDefEqProofs [go_sem]) (by simp +decide -dsimp -implicitDefEqProofs [go_sem, hmr]) ?_
  simp +decide -dsimp -implicitDefEqProofs [go_sem, hmr, hlr]
  refine callE_frame [1, 2] cC rfl rfl (by simp) (by simp +decide -dsimp -implicitDefEqProofs [go_sem]) (by simp +decide -dsimp -implicitDefEqProofs [go_sem, hmr]) ?_
  simp +decide -dsimp -implicitDefEqProofs [go_sem, hmr, hcr2]
  generalize linksW w = L at hbest hLl
  generalize clm w = C at hbest hpl hCl
  refine loop_of (S := Nat) (fun i => ⟨tmps 155 [(6, .imm (L.map lkRow)), (7, .imm (C.map clRow)), (8, .int .i64 i)], []⟩) (fun i => L.length - i) (fun i => i ≤ L.length) 0 (by simp) (cut_of (by simp) ?_) ?_
  · simp +decide -dsimp -implicitDefEqProofs [go_sem, hlc, hlc2]
  intro a ha
  by_cases h : a < L.length
  · have wa : IntKind.i64.wrap ((a : Int) + 1) = a + 1 := w64 (by omega) (by omega)
    obtain ⟨ic, hi, b1, b2, b3, b4, b5⟩ := hbest _ (List.getElem_mem h)
    simp +decide -dsimp -implicitDefEqProofs [go_sem, h]
    refine loop_of (S := Nat) (fun k => ⟨tmps 155 [(6, .imm (L.map lkRow)), (7, .imm (C.map clRow)), (8, .int .i64 a), (9, .int .i64 (if ic < k then (ic : Int) else -1)), (10, .int .i64 k)], []⟩) (fun k => C.length - k) (fun k => k ≤ C.length) 0 (by simp) (cut_of (by simp) ?_) ?_
    · simp +decide -dsimp -implicitDefEqProofs [go_sem, hlc, hlc2]
    intro k hk
    by_cases h2 : k < C.length
    · have wb : IntKind.i64.wrap ((k : Int) + 1) = k + 1 := w64 (by omega) (by omega)
      by_cases e : k = ic
      · subst e
        simp +decide -dsimp -implicitDefEqProofs [go_sem, h, h2, hlk, hck, b1, b2, b3, wb]
        refine next_of (k + 1) (by show k + 1 ≤ C.length; omega) (by show C.length - (k + 1) < C.length - k; omega) (cut_of (by simp) ?_)
        simp +decide -dsimp -implicitDefEqProofs [go_sem, hlc, hlc2]
      · have e1 : (ic < k + 1) = (ic < k) := by simp only [eq_iff_iff]; omega
        by_cases e2 : C[k].link = L[a].name
        · have e3 : ¬ C[k].path = L[a].path := fun q => e (b4 k h2 e2 q)
          simp +decide -dsimp -implicitDefEqProofs [go_sem, h, h2, hlk, hck, e2, e3, wb]
          refine next_of (k + 1) (by show k + 1 ≤ C.length; omega) (by show C.length - (k + 1) < C.length - k; omega) (cut_of (by simp) ?_)
          simp +decide -dsimp -implicitDefEqProofs [go_sem, hlc, hlc2, e1]
        · simp +decide -dsimp -implicitDefEqProofs [go_sem, h, h2, hlk, hck, e2, wb]
          refine next_of (k + 1) (by show k + 1 ≤ C.length; omega) (by show C.length - (k + 1) < C.length - k; omega) (cut_of (by simp) ?_)
          simp +decide -dsimp -implicitDefEqProofs [go_sem, hlc, hlc2, e1]
    · have e2 : k = C.length := by omega
      subst e2
      have ni : ¬ ((ic : Int) < 0) := by omega
      simp +decide -dsimp -implicitDefEqProofs [go_sem, hi, ni]
      refine loop_of (S := Nat) (fun k => ⟨tmps 155 [(6, .imm (L.map lkRow)), (7, .imm (C.map clRow)), (8, .int .i64 a), (9, .int .i64 ic), (11, .int .i64 k)], []⟩) (fun k => C.length - k) (fun k => k ≤ C.length) 0 (by simp) (cut_of (by simp) ?_) ?_
      · simp +decide -dsimp -implicitDefEqProofs [go_sem, hlc, hlc2]
      intro k hk2
      by_cases h3 : k < C.length
      · have wk : IntKind.i64.wrap ((k : Int) + 1) = k + 1 := w64 (by omega) (by omega)
        have pP : placeB L[a].path = true := by rw [← b2]; exact hpl _ (List.getElem_mem hi)
        have cc := nCompare_c C[k].path L[a].path (hpl _ (List.getElem_mem h3)) pP
        simp +decide -dsimp -implicitDefEqProofs [go_sem, h, h3, hlk, hck]
        refine callDE_pure cc rfl rfl ?_
        by_cases e2 : C[k].link = L[a].name
        · obtain ⟨d1, d2⟩ := b5 k h3 e2
          by_cases e3 : C[k].prio = C[ic].prio
          · have d3 := d2 e3
            simp +decide -dsimp -implicitDefEqProofs [go_sem, h, h3, hi, hlk, hck, e2, e3, d3, wk]
            refine next_of (k + 1) (by show k + 1 ≤ C.length; omega) (by show C.length - (k + 1) < C.length - k; omega) (cut_of (by simp) ?_)
            simp +decide -dsimp -implicitDefEqProofs [go_sem, hlc, hlc2]
          · simp +decide -dsimp -implicitDefEqProofs [go_sem, h, h3, hi, hlk, hck, e2, e3, d1, wk]
            refine next_of (k + 1) (by show k + 1 ≤ C.length; omega) (by show C.length - (k + 1) < C.length - k; omega) (cut_of (by simp) ?_)
            simp +decide -dsimp -implicitDefEqProofs [go_sem, hlc, hlc2]
        · simp +decide -dsimp -implicitDefEqProofs [go_sem, h, h3, hlk, hck, e2, wk]
          refine next_of (k + 1) (by show k + 1 ≤ C.length; omega) (by show C.length - (k + 1) < C.length - k; omega) (cut_of (by simp) ?_)
          simp +decide -dsimp -implicitDefEqProofs [go_sem, hlc, hlc2]
      · have e3 : k = C.length := by omega
        subst e3
        simp +decide -dsimp -implicitDefEqProofs [go_sem, wa]
        refine next_of (a + 1) (by show a + 1 ≤ L.length; omega) (by show L.length - (a + 1) < L.length - a; omega) (cut_of (by simp) ?_)
        simp +decide -dsimp -implicitDefEqProofs [go_sem, hlc, hlc2]
  · have e2 : a = L.length := by omega
    subst e2
    simp +decide -dsimp -implicitDefEqProofs [go_sem]
end Go.Ab
