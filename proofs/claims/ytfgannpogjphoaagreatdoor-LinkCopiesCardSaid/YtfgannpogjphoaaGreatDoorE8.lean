/- A copy of a table. -/
import Derived.Test.YtfgannpogjphoaaGreatDoorW3
import Derived.Test.YtfgannpogjphoaaGreatDoorC1
import Derived.Test.YtfgannpogjphoaaGreatDoorEB
namespace Go.Ab
open Go Go.Proofs Go.Sort
set_option maxRecDepth 20000
theorem Copy_c (m : SMap Own) : ACallsR Tryz.prog 31 [.ptr 1 0] (tbO m) (fun v G => v = .ptr 3 0 ∧ G = tbO m ++ [.map (smK ownV m), .box 68 [.map 2]]) := by
  have hmr := own_renK
  have hmc := own_clm
  refine acalls_W _ c31_ok ?_
  unfold c31 tbO
  simp +decide -dsimp -implicitDefEqProofs [go_sem]
  refine callE_grow [0] 1 (clone_c (smK ownV m)) rfl (fun v G h => by rw [h.2]; rfl) (by simp +decide) (by simp +decide -dsimp -implicitDefEqProofs [go_sem]) (by simp +decide -dsimp -implicitDefEqProofs [go_sem, hmr]) ?_
  rintro _ _ ⟨rfl, rfl⟩
  simp +decide -dsimp -implicitDefEqProofs [go_sem, hmr]
  refine endW_of _ _ (.refl _ _) ?_
  simp +decide -dsimp -implicitDefEqProofs [go_sem, packR]
end Go.Ab
namespace Go.Ab
open Go Go.Proofs
def c8 : AFn := ⟨(.seq (.ops [⟨(some 2), (.mov (.v (.bool false))), none⟩]) (.seq (.ops [⟨(some 10), (.mov (.t 0)), none⟩, ⟨(some 11), (.build [.nils, (.int .i64 0)] [(0, (1, (.t 10)))]), none⟩, ⟨(some 12), (.box 25 (.t 11)), none⟩, ⟨(some 3), (.mov (.t 12)), none⟩]) (.seq (.ops [⟨(some 13), (.call (.v (.fn (.func 10) [] [])) []), none⟩, ⟨(some 4), (.mov (.t 13)), none⟩]) (.seq (.seq (.ops [⟨(some 14), (.call (.v (.fn (.func 11) [] [])) []), none⟩, ⟨(some 15), (.un .not (.t 14)), none⟩, ⟨(some 16), (.mov (.t 15)), none⟩, ⟨(some 17), (.mov (.t 4)), (some (16, false))⟩, ⟨(some 18), (.ext (.pnil false) [(.t 17)]), (some (16, false))⟩, ⟨(some 19), (.pick (.t 16) (.v (.bool true)) (.t 18)), none⟩]) (.cond (.t 19) (.seq (.ops [⟨(some 2), (.mov (.v (.bool false))), none⟩]) .ret) .skip)) (.seq (.seq (.ops [⟨(some 20), (.mov (.t 3)), none⟩, ⟨(some 21), (.call (.v (.fn (.func 14) [] [])) [(.t 20), (.v (.int .i64 6))]), none⟩, ⟨(some 5), (.mov (.t 21)), none⟩]) (.block 0 (.loop (.seq (.seq (.ops [⟨(some 22), (.mov (.t 5)), none⟩, ⟨(some 23), (.bin .gtr (.t 22) (.v (.int .i64 0))), none⟩]) (.cond (.t 23) .skip (.exit 0))) (.seq (.block 1 (.ops [⟨(some 26), (.mov (.t 4)), none⟩, ⟨(some 27), (.mov (.t 3)), none⟩, ⟨(some 28), (.call (.v (.fn (.func 12) [] [])) [(.t 27)]), none⟩, ⟨(some 29), (.call (.v (.fn (.func 20) [] [])) [(.t 26), (.t 28)]), none⟩])) (.ops [⟨(some 24), (.mov (.t 5)), none⟩, ⟨(some 25), (.bin .sub (.t 24) (.v (.int .i64 1))), none⟩, ⟨(some 5), (.mov (.t 25)), none⟩])))))) (.seq (.ops [⟨(some 30), (.mov (.t 4)), none⟩, ⟨(some 31), (.call (.v (.fn (.func 31) [] [])) [(.t 30)]), none⟩, ⟨(some 6), (.mov (.t 31)), none⟩]) (.seq (.seq (.ops [⟨(some 32), (.mov (.t 6)), none⟩, ⟨(some 33), (.ext (.pnil false) [(.t 32)]), none⟩, ⟨(some 34), (.mov (.t 33)), none⟩, ⟨(some 35), (.mov (.t 4)), (some (34, false))⟩, ⟨(some 36), (.call (.v (.fn (.func 21) [] [])) [(.t 35)]), (some (34, false))⟩, ⟨(some 37), (.mov (.t 6)), (some (34, false))⟩, ⟨(some 38), (.call (.v (.fn (.func 21) [] [])) [(.t 37)]), (some (34, false))⟩, ⟨(some 39), (.call (.v (.fn (.func 32) [] [])) [(.t 36), (.t 38)]), (some (34, false))⟩, ⟨(some 40), (.un .not (.t 39)), (some (34, false))⟩, ⟨(some 41), (.pick (.t 34) (.v (.bool true)) (.t 40)), none⟩, ⟨(some 42), (.mov (.t 41)), none⟩, ⟨(some 43), (.mov (.t 4)), (some (42, false))⟩, ⟨(some 44), (.call (.v (.fn (.func 19) [] [])) [(.t 43)]), (some (42, false))⟩, ⟨(some 45), (.mov (.t 6)), (some (42, false))⟩, ⟨(some 46), (.call (.v (.fn (.func 19) [] [])) [(.t 45)]), (some (42, false))⟩, ⟨(some 47), (.call (.v (.fn (.func 18) [] [])) [(.t 44), (.t 46)]), (some (42, false))⟩, ⟨(some 48), (.un .not (.t 47)), (some (42, false))⟩, ⟨(some 49), (.pick (.t 42) (.v (.bool true)) (.t 48)), none⟩]) (.cond (.t 49) (.seq (.ops [⟨(some 2), (.mov (.v (.bool false))), none⟩]) .ret) .skip)) (.seq (.ops [⟨(some 50), (.mov (.t 4)), none⟩, ⟨(some 51), (.call (.v (.fn (.func 21) [] [])) [(.t 50)]), none⟩, ⟨(some 52), (.mov (.t 4)), none⟩, ⟨(some 53), (.call (.v (.fn (.func 19) [] [])) [(.t 52)]), none⟩, ⟨(some 7), (.mov (.t 51)), none⟩, ⟨(some 8), (.mov (.t 53)), none⟩]) (.seq (.seq (.ops [⟨(some 54), (.mov (.t 3)), none⟩, ⟨(some 55), (.call (.v (.fn (.func 14) [] [])) [(.t 54), (.v (.int .i64 5))]), none⟩, ⟨(some 9), (.mov (.t 55)), none⟩]) (.block 2 (.loop (.seq (.seq (.ops [⟨(some 56), (.mov (.t 9)), none⟩, ⟨(some 57), (.bin .gtr (.t 56) (.v (.int .i64 0))), none⟩]) (.cond (.t 57) .skip (.exit 2))) (.seq (.block 3 (.ops [⟨(some 60), (.mov (.t 6)), none⟩, ⟨(some 61), (.mov (.t 3)), none⟩, ⟨(some 62), (.call (.v (.fn (.func 12) [] [])) [(.t 61)]), none⟩, ⟨(some 63), (.call (.v (.fn (.func 20) [] [])) [(.t 60), (.t 62)]), none⟩])) (.ops [⟨(some 58), (.mov (.t 9)), none⟩, ⟨(some 59), (.bin .sub (.t 58) (.v (.int .i64 1))), none⟩, ⟨(some 9), (.mov (.t 59)), none⟩])))))) (.seq (.ops [⟨(some 64), (.mov (.t 4)), none⟩, ⟨(some 65), (.call (.v (.fn (.func 21) [] [])) [(.t 64)]), none⟩, ⟨(some 66), (.mov (.t 7)), none⟩, ⟨(some 67), (.call (.v (.fn (.func 32) [] [])) [(.t 65), (.t 66)]), none⟩, ⟨(some 68), (.mov (.t 67)), none⟩, ⟨(some 69), (.mov (.t 4)), (some (68, true))⟩, ⟨(some 70), (.call (.v (.fn (.func 19) [] [])) [(.t 69)]), (some (68, true))⟩, ⟨(some 71), (.mov (.t 8)), (some (68, true))⟩, ⟨(some 72), (.call (.v (.fn (.func 18) [] [])) [(.t 70), (.t 71)]), (some (68, true))⟩, ⟨(some 73), (.pick (.t 68) (.t 72) (.v (.bool false))), none⟩, ⟨(some 2), (.mov (.t 73)), none⟩]) .ret)))))))))), 74, [(.tmp 2)]⟩
theorem c8_ok : compileF Tryz.prog [] 8 = some c8 := by kernel_rfl
end Go.Ab
namespace Go.Ab
open Go Go.Proofs Go.Sort
set_option maxRecDepth 20000
set_option maxHeartbeats 16000000 in
theorem LinkCopies_c (l : List Int) : ACalls Tryz.prog 8 [tapeVs l] [] (.bool true) [] := by
  have b0 := fold_bd (tapeV l 0) 6 (by omega)
  obtain ⟨n, hn⟩ : ∃ n : Nat, fold (tapeV l 0) 6 = n := ⟨_, (Int.toNat_of_nonneg b0.1).symm⟩
  have c0 := Next_c l 0 6 (by omega) (by omega)
  rw [hn] at b0 c0
  have hmc := own_clm
  have hmr := own_renK
  have hlr := renLL_lkRows
  have hlc := closedLL_lkRows
  have hlc2 := closedLL_clRows
  have hcr2 := renLL_clRows
  have hck : ∀ x : Cl, clRow x = [.str x.link, .str x.path, .str x.node, .int .i64 x.prio] := fun _ => rfl
  have hlk : ∀ x : Lk, lkRow x = [.str x.name, .str x.node, .str x.path] := fun _ => rfl
  refine acalls_F c8_ok rfl ?_
  unfold c8 tapeVs
  simp +decide -dsimp -implicitDefEqProofs [go_sem]
  rw [tape0]
  refine callE_grow [] 2 new_c rfl (fun v G h => by rw [h.2]; rfl) (by show (List.range' 1 2).Nodup; decide) rfl (by simp) ?_
  rintro _ _ ⟨rfl, rfl⟩
  unfold tbO
  simp +decide -dsimp -implicitDefEqProofs [go_sem, hmr, show List.range' 1 2 = [1, 2] from rfl]
  refine callE_pure known_c rfl rfl ?_
  simp +decide -dsimp -implicitDefEqProofs [go_sem]
  refine callE_frame [0] c0 rfl rfl (by simp) (by simp +decide -dsimp -implicitDefEqProofs [go_sem]) (by simp +decide -dsimp -implicitDefEqProofs [go_sem, tapeO_ren]) ?_
  simp +decide -dsimp -implicitDefEqProofs [go_sem, tapeO_ren]
  refine loop_of (S := RT) (fun s => ⟨tmps 74 [(3, .ptr 0 0), (4, .ptr 2 0), (5, .int .i64 ((n - s.i : Nat) : Int))], [tapeO l s.k, .map (smK ownV s.m), .box 68 [.map 1]]⟩) (fun s => n - s.i) (RT.ok n) ⟨0, 1, [], []⟩ ⟨by simp, by simp, .nil⟩ (cut_of (by simp) ?_) ?_
  · simp +decide -dsimp -implicitDefEqProofs [go_sem, tapeO]
  rintro ⟨i, k, m, w⟩ ⟨hi, hk, hT⟩
  simp only at hi hk hT
  by_cases h : i < n
  · have h' : 0 < n - i := by omega
    have wi : IntKind.i64.wrap (((n - i : Nat) : Int) - 1) = ((n - (i + 1) : Nat) : Int) := by rw [w64 (by omega) (by omega)]; omega
    simp +decide -dsimp -implicitDefEqProofs [go_sem, h']
    refine callE_frameR [0] (some_c l k (by omega)) rfl (fun v G ⟨_, _, _, hG, _⟩ => by rw [hG]; rfl) (by simp) (by simp +decide -dsimp -implicitDefEqProofs [go_sem]) (by simp +decide -dsimp -implicitDefEqProofs [go_sem, tapeO_ren]) ?_
    rintro _ _ ⟨c, k', rfl, rfl, hc, hk'⟩
    have cd := do_c few_s hT (by omega) c hc
    have hcr : ∀ is, renL is (calRow c) = calRow c := fun is => by simp [calRow, renL, ren, renLL_sRows]
    unfold tbO at cd
    simp +decide -dsimp -implicitDefEqProofs [go_sem, tapeO_ren, hcr]
    refine callE_frameR [1, 2] cd rfl (fun v G ⟨_, _, hG, _⟩ => by rw [hG]; rfl) (by simp) (by simp +decide -dsimp -implicitDefEqProofs [go_sem, hcr]) (by simp +decide -dsimp -implicitDefEqProofs [go_sem, hmr]) ?_
    rintro _ _ ⟨m', rfl, rfl, hT'⟩
    unfold tbO
    simp +decide -dsimp -implicitDefEqProofs [go_sem, hmr, wi]
    refine next_of ⟨i + 1, k', m', calW w c⟩ ⟨by show i + 1 ≤ n; omega, by show k' ≤ 1 + 20 * (i + 1); omega, hT'⟩ (by show n - (i + 1) < n - i; omega) (cut_of (by simp) ?_)
    simp +decide -dsimp -implicitDefEqProofs [go_sem, tapeO]
    exact hmc _ _
  have e : i = n := by omega
  subst e
  have hml := hT.ml
  have hwl := hT.wl few_s
  have hll := hT.ll few_s
  have cN := Nodes_c hT.t (by omega)
  have cC := Claims_c hT.t (by omega) hwl (fun d hd => by have := hll d hd; omega)
  have hCl : (clm w).length ≤ 12 * 12 := Nat.le_trans (clm_len hll) (Nat.mul_le_mul_right _ hwl)
  have hnl := nodesW_len (w := w)
  have sC := sameClaims_c (clm w) (by omega)
  have sN := sameTexts_c (nodesW w) (by omega)
  have cY := Copy_c m
  have b5 := fold_bd (tapeV l k) 5 (by omega)
  obtain ⟨q, hq⟩ : ∃ q : Nat, fold (tapeV l k) 5 = q := ⟨_, (Int.toNat_of_nonneg b5.1).symm⟩
  have c5 := Next_c l k 5 (by omega) (by omega)
  rw [hq] at b5 c5
  unfold tbO at cN cC cY
  simp +decide -dsimp -implicitDefEqProofs [go_sem]
  refine callE_grow [1, 2] 2 cY rfl (fun v G h => by rw [h.2]; rfl) (by simp +decide) (by simp +decide -dsimp -implicitDefEqProofs [go_sem]) (by simp +decide -dsimp -implicitDefEqProofs [go_sem, hmr]) ?_
  rintro _ _ ⟨rfl, rfl⟩
  simp +decide -dsimp -implicitDefEqProofs [go_sem, hmr, show List.range' 3 2 = [3, 4] from rfl]
  refine callE_frame [1, 2] cC rfl rfl (by simp) (by simp +decide -dsimp -implicitDefEqProofs [go_sem]) (by simp +decide -dsimp -implicitDefEqProofs [go_sem, hmr]) ?_
  simp +decide -dsimp -implicitDefEqProofs [go_sem, hmr, hcr2]
  refine callE_frame [3, 4] cC rfl rfl (by simp) (by simp +decide -dsimp -implicitDefEqProofs [go_sem]) (by simp +decide -dsimp -implicitDefEqProofs [go_sem, hmr]) ?_
  simp +decide -dsimp -implicitDefEqProofs [go_sem, hmr, hcr2]
  refine callE_pure sC (by simp +decide -dsimp -implicitDefEqProofs [go_sem, hlc2]) rfl ?_
  simp +decide -dsimp -implicitDefEqProofs [go_sem]
  refine callE_frame [1, 2] cN rfl rfl (by simp) (by simp +decide -dsimp -implicitDefEqProofs [go_sem]) (by simp +decide -dsimp -implicitDefEqProofs [go_sem, hmr]) ?_
  simp +decide -dsimp -implicitDefEqProofs [go_sem, hmr]
  refine callE_frame [3, 4] cN rfl rfl (by simp) (by simp +decide -dsimp -implicitDefEqProofs [go_sem]) (by simp +decide -dsimp -implicitDefEqProofs [go_sem, hmr]) ?_
  simp +decide -dsimp -implicitDefEqProofs [go_sem, hmr]
  refine callE_pure sN (by simp +decide -dsimp -implicitDefEqProofs [go_sem]) rfl ?_
  simp +decide -dsimp -implicitDefEqProofs [go_sem]
  refine callE_frame [1, 2] cC rfl rfl (by simp) (by simp +decide -dsimp -implicitDefEqProofs [go_sem]) (by simp +decide -dsimp -implicitDefEqProofs [go_sem, hmr]) ?_
  simp +decide -dsimp -implicitDefEqProofs [go_sem, hmr, hcr2]
  refine callE_frame [1, 2] cN rfl rfl (by simp) (by simp +decide -dsimp -implicitDefEqProofs [go_sem]) (by simp +decide -dsimp -implicitDefEqProofs [go_sem, hmr]) ?_
  simp +decide -dsimp -implicitDefEqProofs [go_sem, hmr]
  refine callE_frame [0] c5 rfl rfl (by simp) (by simp +decide -dsimp -implicitDefEqProofs [go_sem]) (by simp +decide -dsimp -implicitDefEqProofs [go_sem, tapeO_ren]) ?_
  simp +decide -dsimp -implicitDefEqProofs [go_sem, tapeO_ren]
  refine loop_of (S := RT) (fun s => ⟨tmps 74 [(3, .ptr 0 0), (4, .ptr 2 0), (6, .ptr 4 0), (7, .imm ((clm w).map clRow)), (8, .imm ((nodesW w).map sRow)), (9, .int .i64 ((q - s.i : Nat) : Int))], [tapeO l s.k, .map (smK ownV m), .box 68 [.map 1], .map (smK ownV s.m), .box 68 [.map 3]]⟩) (fun s => q - s.i) (fun s => s.i ≤ q ∧ s.k ≤ k + 1 + 20 * s.i ∧ Tbl puS uS (i + s.i) s.m s.w) ⟨0, k + 1, m, w⟩ ⟨by simp, by simp, hT⟩ (cut_of (by simp) ?_) ?_
  · simp +decide -dsimp -implicitDefEqProofs [go_sem, tapeO, hlc2]
    exact hmc _ _
  rintro ⟨i', k', m', w'⟩ ⟨hi2, hk2, hT2⟩
  simp only at hi2 hk2 hT2
  by_cases h2 : i' < q
  · have h' : 0 < q - i' := by omega
    have wi : IntKind.i64.wrap (((q - i' : Nat) : Int) - 1) = ((q - (i' + 1) : Nat) : Int) := by rw [w64 (by omega) (by omega)]; omega
    simp +decide -dsimp -implicitDefEqProofs [go_sem, h']
    refine callE_frameR [0] (some_c l k' (by omega)) rfl (fun v G ⟨_, _, _, hG, _⟩ => by rw [hG]; rfl) (by simp) (by simp +decide -dsimp -implicitDefEqProofs [go_sem]) (by simp +decide -dsimp -implicitDefEqProofs [go_sem, tapeO_ren]) ?_
    rintro _ _ ⟨c, k3, rfl, rfl, hc, hk3⟩
    have cd := do_c few_s hT2 (by omega) c hc
    have hcr : ∀ is, renL is (calRow c) = calRow c := fun is => by simp [calRow, renL, ren, renLL_sRows]
    unfold tbO at cd
    simp +decide -dsimp -implicitDefEqProofs [go_sem, tapeO_ren, hcr]
    refine callE_frameR [3, 4] cd rfl (fun v G ⟨_, _, hG, _⟩ => by rw [hG]; rfl) (by simp) (by simp +decide -dsimp -implicitDefEqProofs [go_sem, hcr]) (by simp +decide -dsimp -implicitDefEqProofs [go_sem, hmr]) ?_
    rintro _ _ ⟨m3, rfl, rfl, hT3⟩
    unfold tbO
    simp +decide -dsimp -implicitDefEqProofs [go_sem, hmr, wi]
    refine next_of ⟨i' + 1, k3, m3, calW w' c⟩ ⟨by show i' + 1 ≤ q; omega, by show k3 ≤ k + 1 + 20 * (i' + 1); omega, hT3⟩ (by show q - (i' + 1) < q - i'; omega) (cut_of (by simp) ?_)
    simp +decide -dsimp -implicitDefEqProofs [go_sem, tapeO, hlc2]
    exact ⟨hmc _ _, hmc _ _⟩
  have e2 : i' = q := by omega
  subst e2
  simp +decide -dsimp -implicitDefEqProofs [go_sem]
  refine callE_frame [1, 2] cC rfl rfl (by simp) (by simp +decide -dsimp -implicitDefEqProofs [go_sem]) (by simp +decide -dsimp -implicitDefEqProofs [go_sem, hmr]) ?_
  simp +decide -dsimp -implicitDefEqProofs [go_sem, hmr, hcr2]
  refine callE_pure sC (by simp +decide -dsimp -implicitDefEqProofs [go_sem, hlc2]) rfl ?_
  simp +decide -dsimp -implicitDefEqProofs [go_sem]
  refine callE_frame [1, 2] cN rfl rfl (by simp) (by simp +decide -dsimp -implicitDefEqProofs [go_sem]) (by simp +decide -dsimp -implicitDefEqProofs [go_sem, hmr]) ?_
  simp +decide -dsimp -implicitDefEqProofs [go_sem, hmr]
  refine callE_pure sN (by simp +decide -dsimp -implicitDefEqProofs [go_sem]) rfl ?_
  simp +decide -dsimp -implicitDefEqProofs [go_sem]
end Go.Ab
