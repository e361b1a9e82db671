/- A layer of abstract values over the model, and what is proved with it: part E9. -/
import Derived.Test.YtfgannpogjphoaaGreatDoorC1
import Derived.Test.YtfgannpogjphoaaGreatDoorRA
namespace Go.Ab
open Go Go.Proofs
def c9 : AFn := ⟨(.seq (.ops [⟨(some 4), (.mov (.v (.bool false))), none⟩]) (.seq (.ops [⟨(some 19), (.mov (.t 0)), none⟩, ⟨(some 20), (.build [.nils, (.int .i64 0)] [(0, (1, (.t 19)))]), none⟩, ⟨(some 21), (.box 25 (.t 20)), none⟩, ⟨(some 5), (.mov (.t 21)), none⟩]) (.seq (.ops [⟨(some 22), (.call (.v (.fn (.func 10) [] [])) []), none⟩, ⟨(some 6), (.mov (.t 22)), none⟩]) (.seq (.seq (.ops [⟨(some 23), (.call (.v (.fn (.func 11) [] [])) []), none⟩, ⟨(some 24), (.un .not (.t 23)), none⟩, ⟨(some 25), (.mov (.t 24)), none⟩, ⟨(some 26), (.mov (.t 6)), (some (25, false))⟩, ⟨(some 27), (.ext (.pnil false) [(.t 26)]), (some (25, false))⟩, ⟨(some 28), (.pick (.t 25) (.v (.bool true)) (.t 27)), none⟩]) (.cond (.t 28) (.seq (.ops [⟨(some 4), (.mov (.v (.bool false))), none⟩]) .ret) .skip)) (.seq (.ops [⟨(some 7), (.mov (.v .nils)), none⟩]) (.seq (.seq (.ops [⟨(some 29), (.mov (.t 5)), none⟩, ⟨(some 30), (.call (.v (.fn (.func 14) [] [])) [(.t 29), (.v (.int .i64 14))]), none⟩, ⟨(some 8), (.mov (.t 30)), none⟩]) (.block 0 (.loop (.seq (.seq (.ops [⟨(some 31), (.mov (.t 8)), none⟩, ⟨(some 32), (.bin .gtr (.t 31) (.v (.int .i64 0))), none⟩]) (.cond (.t 32) .skip (.exit 0))) (.seq (.block 1 (.seq (.ops [⟨(some 35), (.mov (.t 5)), none⟩, ⟨(some 36), (.call (.v (.fn (.func 12) [] [])) [(.t 35)]), none⟩, ⟨(some 9), (.alloc 32 [(.bool false), (.str []), (.str []), .nils, (.int .i64 0)]), none⟩, ⟨none, (.store (some 5) (.t 9) (.t 36)), none⟩]) (.seq (.ops [⟨(some 37), (.mov (.t 6)), none⟩, ⟨(some 38), (.load (some 5) (.t 9)), none⟩, ⟨(some 39), (.call (.v (.fn (.func 20) [] [])) [(.t 37), (.t 38)]), none⟩, ⟨(some 10), (.mov (.t 39)), none⟩]) (.seq (.ops [⟨(some 41), (.mov (.t 7)), none⟩, ⟨(some 42), (.load (some 5) (.t 9)), none⟩, ⟨(some 43), (.call (.v (.fn (.func 24) [] [])) [(.t 41), (.t 42)]), none⟩, ⟨(some 40), (.mov (.t 43)), none⟩, ⟨(some 44), (.extract (.t 40) 0), none⟩, ⟨(some 45), (.extract (.t 40) 1), none⟩, ⟨(some 11), (.mov (.t 44)), none⟩, ⟨(some 12), (.mov (.t 45)), none⟩]) (.seq (.seq (.ops [⟨(some 46), (.mov (.t 11)), none⟩, ⟨(some 7), (.mov (.t 46)), none⟩]) (.seq (.ops [⟨(some 47), (.mov (.t 10)), none⟩, ⟨(some 48), (.mov (.t 12)), none⟩, ⟨(some 49), (.bin .neq (.t 47) (.t 48)), none⟩, ⟨(some 50), (.mov (.t 49)), none⟩, ⟨(some 51), (.mov (.t 6)), (some (50, false))⟩, ⟨(some 52), (.call (.v (.fn (.func 19) [] [])) [(.t 51)]), (some (50, false))⟩, ⟨(some 53), (.mov (.t 7)), (some (50, false))⟩, ⟨(some 54), (.call (.v (.fn (.func 29) [] [])) [(.t 53)]), (some (50, false))⟩, ⟨(some 55), (.call (.v (.fn (.func 18) [] [])) [(.t 52), (.t 54)]), (some (50, false))⟩, ⟨(some 56), (.un .not (.t 55)), (some (50, false))⟩, ⟨(some 57), (.pick (.t 50) (.v (.bool true)) (.t 56)), none⟩, ⟨(some 58), (.mov (.t 57)), none⟩, ⟨(some 59), (.mov (.t 6)), (some (58, false))⟩, ⟨(some 60), (.call (.v (.fn (.func 21) [] [])) [(.t 59)]), (some (58, false))⟩, ⟨(some 61), (.mov (.t 7)), (some (58, false))⟩, ⟨(some 62), (.call (.v (.fn (.func 25) [] [])) [(.t 61)]), (some (58, false))⟩, ⟨(some 63), (.call (.v (.fn (.func 32) [] [])) [(.t 60), (.t 62)]), (some (58, false))⟩, ⟨(some 64), (.un .not (.t 63)), (some (58, false))⟩, ⟨(some 65), (.pick (.t 58) (.v (.bool true)) (.t 64)), none⟩]) (.cond (.t 65) (.seq (.ops [⟨(some 4), (.mov (.v (.bool false))), none⟩]) .ret) .skip))) (.seq (.ops [⟨(some 66), (.mov (.t 7)), none⟩, ⟨(some 67), (.call (.v (.fn (.func 29) [] [])) [(.t 66)]), none⟩, ⟨(some 68), (.mov (.t 7)), none⟩, ⟨(some 69), (.call (.v (.fn (.func 25) [] [])) [(.t 68)]), none⟩, ⟨(some 70), (.call (.v (.fn (.func 28) [] [])) [(.t 67), (.t 69)]), none⟩, ⟨(some 13), (.mov (.t 70)), none⟩]) (.seq (.seq (.ops [⟨(some 71), (.mov (.t 6)), none⟩, ⟨(some 72), (.call (.v (.fn (.func 17) [] [])) [(.t 71)]), none⟩, ⟨(some 73), (.mov (.t 13)), none⟩, ⟨(some 74), (.call (.v (.fn (.func 16) [] [])) [(.t 72), (.t 73)]), none⟩, ⟨(some 75), (.un .not (.t 74)), none⟩]) (.cond (.t 75) (.seq (.ops [⟨(some 4), (.mov (.v (.bool false))), none⟩]) .ret) .skip)) (.seq (.ops [⟨(some 76), (.mov (.t 5)), none⟩, ⟨(some 77), (.mov (.t 1)), none⟩, ⟨(some 78), (.bslice 9 1 false [(.v (.str [100, 47, 120])), (.v (.str [100])), (.v (.str [122])), (.v (.str [98])), (.t 77)]), none⟩, ⟨(some 79), (.call (.v (.fn (.func 26) [] [])) [(.t 76), (.t 78)]), none⟩, ⟨(some 14), (.mov (.t 79)), none⟩]) (.seq (.ops [⟨(some 80), (.build [(.str []), (.str []), (.str [])] []), none⟩, ⟨(some 15), (.alloc 50 [(.str []), (.str []), (.str [])]), none⟩, ⟨none, (.store (some 3) (.t 15) (.t 80)), none⟩]) (.seq (.seq (.ops [⟨(some 16), (.mov (.v (.int .i64 0))), none⟩]) (.block 2 (.loop (.seq (.seq (.ops [⟨(some 81), (.mov (.t 16)), none⟩, ⟨(some 82), (.mov (.t 13)), none⟩, ⟨(some 83), (.len .sl (.t 82)), none⟩, ⟨(some 84), (.bin .lss (.t 81) (.t 83)), none⟩]) (.cond (.t 84) .skip (.exit 2))) (.seq (.block 3 (.seq (.ops [⟨(some 87), (.mov (.t 13)), none⟩, ⟨(some 88), (.mov (.t 16)), none⟩, ⟨(some 89), (.iaddr none 3 (.t 87) (.t 88)), none⟩, ⟨(some 90), (.faddr 0 (.t 89)), none⟩, ⟨(some 91), (.load none (.t 90)), none⟩, ⟨(some 92), (.mov (.t 14)), none⟩, ⟨(some 93), (.bin .eql (.t 91) (.t 92)), none⟩]) (.cond (.t 93) (.ops [⟨(some 94), (.mov (.t 13)), none⟩, ⟨(some 95), (.mov (.t 16)), none⟩, ⟨(some 96), (.iaddr none 3 (.t 94) (.t 95)), none⟩, ⟨(some 97), (.load (some 3) (.t 96)), none⟩, ⟨none, (.store (some 3) (.t 15) (.t 97)), none⟩]) .skip))) (.ops [⟨(some 85), (.mov (.t 16)), none⟩, ⟨(some 86), (.bin .add (.t 85) (.v (.int .i64 1))), none⟩, ⟨(some 16), (.mov (.t 86)), none⟩])))))) (.seq (.ops [⟨(some 99), (.mov (.t 6)), none⟩, ⟨(some 100), (.mov (.t 14)), none⟩, ⟨(some 101), (.call (.v (.fn (.func 30) [] [])) [(.t 99), (.t 100)]), none⟩, ⟨(some 98), (.mov (.t 101)), none⟩, ⟨(some 102), (.extract (.t 98) 0), none⟩, ⟨(some 103), (.extract (.t 98) 1), none⟩, ⟨(some 17), (.alloc 50 [(.str []), (.str []), (.str [])]), none⟩, ⟨none, (.store (some 3) (.t 17) (.t 102)), none⟩, ⟨(some 18), (.mov (.t 103)), none⟩]) (.seq (.ops [⟨(some 104), (.load (some 3) (.t 17)), none⟩, ⟨(some 105), (.load (some 3) (.t 15)), none⟩, ⟨(some 106), (.eqs true [(some .str), (some .str), (some .str)] (.t 104) (.t 105)), none⟩, ⟨(some 107), (.mov (.t 106)), none⟩, ⟨(some 108), (.mov (.t 18)), (some (107, false))⟩, ⟨(some 109), (.load (some 3) (.t 15)), (some (107, false))⟩, ⟨(some 110), (.build [(.str []), (.str []), (.str [])] []), (some (107, false))⟩, ⟨(some 111), (.eqs true [(some .str), (some .str), (some .str)] (.t 109) (.t 110)), (some (107, false))⟩, ⟨(some 112), (.binb true (.t 108) (.t 111)), (some (107, false))⟩, ⟨(some 113), (.pick (.t 107) (.v (.bool true)) (.t 112)), none⟩]) (.cond (.t 113) (.seq (.ops [⟨(some 4), (.mov (.v (.bool false))), none⟩]) .ret) .skip))))))))))))) (.ops [⟨(some 33), (.mov (.t 8)), none⟩, ⟨(some 34), (.bin .sub (.t 33) (.v (.int .i64 1))), none⟩, ⟨(some 8), (.mov (.t 34)), none⟩])))))) (.seq (.ops [⟨(some 4), (.mov (.v (.bool true))), none⟩]) .ret))))))), 114, [(.tmp 4)]⟩
theorem c9_ok : compileF Tryz.prog [] 9 = some c9 := by kernel_rfl
end Go.Ab
namespace Go.Ab
open Go Go.Proofs Go.Sort
set_option maxRecDepth 20000
structure RP where
  i : Nat
  k : Nat
  m : SMap Own
  w : List Dv
structure RP.ok (n : Nat) (s : RP) : Prop where
  hi : s.i ≤ n
  hk : s.k ≤ 1 + 21 * s.i
  hT : Tbl puS uS s.i s.m s.w
theorem atL_take {l : List Lk} {s : Txt} {i : Nat} (h : i < l.length) (hd : l.Pairwise fun a b => a.name < b.name) : atL (l.take (i + 1)) s = if l[i].name = s then some l[i] else atL (l.take i) s := by
  unfold atL
  rw [List.take_succ_eq_append_getElem h, List.find?_append]
  split
  · rename_i e
    have : (l.take i).find? (fun x => decide (x.name = s)) = none := List.find?_eq_none.2 fun x hx => by
      obtain ⟨j, hj, rfl⟩ := List.mem_iff_getElem.1 hx
      rw [List.length_take] at hj
      have := List.pairwise_iff_getElem.1 hd j i (by omega) h (by omega)
      rw [List.getElem_take, e] at *
      simpa using fun e2 : l[j].name = s => by rw [e2] at this; exact List.lt_irrefl _ this
    rw [this]
    simp [e]
  · rename_i e
    simp [e]
set_option maxHeartbeats 16000000 in
theorem LinkPlays_c (l : List Int) (nm : Txt) : ACalls Tryz.prog 9 [tapeVs l, .str nm] [] (.bool true) [] := by
  have b0 := fold_bd (tapeV l 0) 14 (by omega)
  obtain ⟨n, hn⟩ : ∃ n : Nat, fold (tapeV l 0) 14 = n := ⟨_, (Int.toNat_of_nonneg b0.1).symm⟩
  have c0 := Next_c l 0 14 (by omega) (by omega)
  rw [hn] at b0 c0
  have hmc := own_clm
  have hmr := own_renK
  have hlr := renLL_lkRows
  have hlc := closedLL_lkRows
  have hcc := closedLL_clRows
  have hccr := renLL_clRows
  have hcl := fun k (w : List Dv) => dvRows_cl k w
  have hlk : ∀ x : Lk, lkRow x = [.str x.name, .str x.node, .str x.path] := fun _ => rfl
  refine acalls_F c9_ok rfl ?_
  unfold c9 tapeVs
  simp +decide -dsimp -implicitDefEqProofs [go_sem]
  rw [tape0]
  refine callE_grow [] 2 new_c rfl (fun v G h => by rw [h.2]; rfl) (by show (List.range' 1 2).Nodup; decide) rfl (by simp) ?_
  rintro _ _ ⟨rfl, rfl⟩
  unfold tbO
  simp +decide -dsimp -implicitDefEqProofs [go_sem, hmr, show List.range' 1 2 = [1, 2] from rfl]
  refine callE_pure known_c rfl rfl ?_
  simp +decide -dsimp -implicitDefEqProofs [go_sem]
  refine callE_frame [0] c0 rfl rfl (by simp) (by simp +decide -dsimp -implicitDefEqProofs [go_sem]) (by simp +decide -dsimp -implicitDefEqProofs [go_sem, tapeO_ren]) ?_
  simp +decide -dsimp -implicitDefEqProofs [go_sem, tapeO_ren]
  refine loop_of (S := RP) (fun s => ⟨tmps 114 [(1, .str nm), (5, .ptr 0 0), (6, .ptr 2 0), (7, .imm (s.w.map dvRow)), (8, .int .i64 ((n - s.i : Nat) : Int))], [tapeO l s.k, .map (smK ownV s.m), .box 68 [.map 1]]⟩) (fun s => n - s.i) (RP.ok n) ⟨0, 1, [], []⟩ ⟨by simp, by simp, .nil⟩ ((Wk.nilI 7 rfl).trans (cut_of (by simp) ?_)) ?_
  · simp +decide -dsimp -implicitDefEqProofs [go_sem, tapeO]
  rintro ⟨i, k, m, w⟩ ⟨hi, hk, hT⟩
  simp only at hi hk hT
  by_cases h : i < n
  · have h' : 0 < n - i := by omega
    have wi : IntKind.i64.wrap (((n - i : Nat) : Int) - 1) = ((n - (i + 1) : Nat) : Int) := by rw [w64 (by omega) (by omega)]; omega
    simp +decide -dsimp -implicitDefEqProofs [go_sem, h']
    refine callE_frameR [0] (some_c l k (by omega)) rfl (fun v G ⟨_, _, _, hG, _⟩ => by rw [hG]; rfl) (by simp) (by simp +decide -dsimp -implicitDefEqProofs [go_sem]) (by simp +decide -dsimp -implicitDefEqProofs [go_sem, tapeO_ren]) ?_
    rintro _ _ ⟨c, k', rfl, rfl, hc, hk'⟩
    have cd := do_c few_s hT (by omega) c hc
    have cm := model_c few_s hT c hc
    have hcr : ∀ is, renL is (calRow c) = calRow c := fun is => by simp [calRow, renL, ren, renLL_sRows]
    have hce : calRow c = [.bool c.drop, .str c.p, .str c.node, .imm (c.links.map sRow), .int .i64 c.prio] := rfl
    unfold tbO at cd
    simp +decide -dsimp -implicitDefEqProofs [go_sem, tapeO_ren, hcr]
    rw [hce] at cd cm
    have hccl : ∀ j, closedL j (calRow c) = true := fun j => by simp [calRow, closedL, closed, closedLL_sRows]
    rw [hce]
    simp +decide -dsimp -implicitDefEqProofs [go_sem]
    refine callE_frameR [1, 2] cd rfl (fun v G ⟨_, _, hG, _⟩ => by rw [hG]; rfl) (by simp) (by simp +decide -dsimp -implicitDefEqProofs [go_sem]) (by simp +decide -dsimp -implicitDefEqProofs [go_sem, hmr]) ?_
    rintro _ _ ⟨m', rfl, rfl, hT'⟩
    generalize calW w c = W at cm hT'
    generalize calE w c = E at cm
    have hW := hT'.wl few_s
    have hll := hT'.ll few_s
    have hml := hT'.ml
    have cN := Nodes_c hT'.t (by omega)
    have cC := Claims_c hT'.t (by omega) hW (fun d hd => Nat.le_trans (hll d hd) (by decide))
    have cL := Links_c few_s hT' (by omega)
    have cRN := rNodes_c W (by omega)
    have cRC := rClaims_c W hW (fun d hd => Nat.le_trans (hll d hd) (by decide))
    have hnl := nodesW_len (w := W)
    have hcn := clm_len (w := W) (B := 12) hll
    have hLl := hT'.kl few_s
    have hus : ∀ c ∈ clm W, c.link.length ≤ 1000 := fun c hc => by
      obtain ⟨d, hd, h3, _⟩ := clm_mem.1 hc
      exact few_s.us _ (hT'.u d hd _ h3)
    have hns : ∀ x ∈ nodesW W, x.length ≤ 1000 := fun x hx => by
      obtain ⟨d, hd, rfl⟩ := nodesW_mem.1 hx
      exact hT'.nl d hd
    have cRR := rResolve_c (nodesW W) (clm W) (by omega) (by omega) (fun x hx => by have := hns x hx; omega) (fun c hc => by have := hus c hc; omega) (clm_ok pord hT'.t.toTabW).1
    have sT := sameTexts_c (nodesW W) (by omega)
    have sC := sameClaims_c (clm W) (by omega)
    have sL := sameLinks_c (linksW W) (by omega)
    have hres := hT'.res
    have hun : ∀ x ∈ linksW W, x.name ≠ [] := fun x hx => by
      obtain ⟨c, hc, rfl, _⟩ := (hres.mem x).1 hx
      obtain ⟨d, hd, h3, _⟩ := clm_mem.1 (List.mem_filter.1 hc.1).1
      have h4 : ∀ u ∈ uS, u ≠ [] := by decide
      exact h4 _ (hT'.u d hd _ h3)
    have hasc := hres.asc
    have oA := One_c l k' [[100, 47, 120], [100], [122], [98], nm] (by omega) (by simp) (by simp)
    generalize oneS [[100, 47, 120], [100], [122], [98], nm] (tapeV l k') = ask at oA
    have cW := Where_c few_s hT' (by omega) ask
    change ACalls Tryz.prog 28 [.imm ((nodesW W).map sRow), .imm ((clm W).map clRow)] [] (.imm ((linksW W).map lkRow)) [] at cRR
    generalize nodesW W = NW at cN cRN cRR sT
    generalize clm W = CW at cC cRC cRR sC
    generalize linksW W = LW at cL cRR sL hun hasc cW hLl
    unfold tbO at cN cC cL cW ⊢
    unfold strsV at oA
    simp +decide -dsimp -implicitDefEqProofs [go_sem, hmr]
    refine callE_pure cm (by simp +decide -dsimp -implicitDefEqProofs [go_sem, hcl]) (by simp +decide -dsimp -implicitDefEqProofs [go_sem, hcl]) ?_
    simp +decide -dsimp -implicitDefEqProofs [go_sem]
    refine callE_frame [1, 2] cN rfl rfl (by simp) (by simp +decide -dsimp -implicitDefEqProofs [go_sem]) (by simp +decide -dsimp -implicitDefEqProofs [go_sem, hmr]) ?_
    simp +decide -dsimp -implicitDefEqProofs [go_sem, hmr]
    refine callE_pure cRN (by simp +decide -dsimp -implicitDefEqProofs [go_sem, hcl]) (by simp +decide -dsimp -implicitDefEqProofs [go_sem]) ?_
    simp +decide -dsimp -implicitDefEqProofs [go_sem]
    refine callE_pure sT (by simp +decide -dsimp -implicitDefEqProofs [go_sem]) rfl ?_
    simp +decide -dsimp -implicitDefEqProofs [go_sem]
    refine callE_frame [1, 2] cC rfl rfl (by simp) (by simp +decide -dsimp -implicitDefEqProofs [go_sem]) (by simp +decide -dsimp -implicitDefEqProofs [go_sem, hmr]) ?_
    simp +decide -dsimp -implicitDefEqProofs [go_sem, hmr, hccr]
    refine callE_pure cRC (by simp +decide -dsimp -implicitDefEqProofs [go_sem, hcl]) (by simp +decide -dsimp -implicitDefEqProofs [go_sem, hcc]) ?_
    simp +decide -dsimp -implicitDefEqProofs [go_sem]
    refine callE_pure sC (by simp +decide -dsimp -implicitDefEqProofs [go_sem, hcc]) rfl ?_
    simp +decide -dsimp -implicitDefEqProofs [go_sem]
    refine callE_pure cRN (by simp +decide -dsimp -implicitDefEqProofs [go_sem, hcl]) (by simp +decide -dsimp -implicitDefEqProofs [go_sem]) ?_
    simp +decide -dsimp -implicitDefEqProofs [go_sem]
    refine callE_pure cRC (by simp +decide -dsimp -implicitDefEqProofs [go_sem, hcl]) (by simp +decide -dsimp -implicitDefEqProofs [go_sem, hcc]) ?_
    simp +decide -dsimp -implicitDefEqProofs [go_sem]
    refine callE_pure cRR (by simp +decide -dsimp -implicitDefEqProofs [go_sem, hcc]) (by simp +decide -dsimp -implicitDefEqProofs [go_sem, hlc]) ?_
    simp +decide -dsimp -implicitDefEqProofs [go_sem]
    refine callE_frame [1, 2] cL rfl rfl (by simp) (by simp +decide -dsimp -implicitDefEqProofs [go_sem]) (by simp +decide -dsimp -implicitDefEqProofs [go_sem, hmr]) ?_
    simp +decide -dsimp -implicitDefEqProofs [go_sem, hmr, hlr]
    refine callE_pure sL (by simp +decide -dsimp -implicitDefEqProofs [go_sem, hlc]) rfl ?_
    simp +decide -dsimp -implicitDefEqProofs [go_sem]
    refine callE_frame [0] oA rfl rfl (by simp) (by simp [sRow, renLL, renL, ren]) (by simp +decide -dsimp -implicitDefEqProofs [go_sem, tapeO_ren]) ?_
    simp +decide -dsimp -implicitDefEqProofs [go_sem, tapeO_ren]
    refine loop_of (S := Nat) (fun q => ⟨tmps 114 [(1, .str nm), (5, .ptr 0 0), (6, .ptr 2 0), (7, .imm (W.map dvRow)), (8, .int .i64 ((n - i : Nat) : Int)), (13, .imm (LW.map lkRow)), (14, .str ask), (15, .ptr 4 0), (16, .int .i64 q)], [tapeO l (k' + 1), .map (smK ownV m'), .box 68 [.map 1], .box 32 (calRow c), .box 50 (atRow (atL (LW.take q) ask))]⟩) (fun q => LW.length - q) (fun q => q ≤ LW.length) 0 (by simp) (cut_of (by simp) ?_) ?_
    · simp +decide -dsimp -implicitDefEqProofs [go_sem, hcl, hlc, atL, atRow, tapeO, hce]
      exact hmc _ _
    intro q hq
    obtain ⟨x1, x2, x3, hx⟩ : ∃ x1 x2 x3, atRow (atL (LW.take q) ask) = [.str x1, .str x2, .str x3] := by
      cases atL (LW.take q) ask with
      | none => exact ⟨_, _, _, rfl⟩
      | some x => exact ⟨_, _, _, rfl⟩
    rw [hx]
    by_cases h2 : q < LW.length
    · have wq : IntKind.i64.wrap ((q : Int) + 1) = q + 1 := w64 (by omega) (by omega)
      have hat := atL_take (s := ask) h2 hasc
      by_cases h3 : LW[q].name = ask
      · rw [if_pos h3] at hat
        simp +decide -dsimp -implicitDefEqProofs [go_sem, h2, hlk, h3, wq]
        refine next_of (q + 1) (by show q + 1 ≤ LW.length; omega) (by show LW.length - (q + 1) < LW.length - q; omega) (cut_of (by simp) ?_)
        rw [hat]
        simp +decide -dsimp -implicitDefEqProofs [go_sem, hcl, hlc, tapeO, hce, atRow, hlk, h3]
        exact hmc _ _
      · rw [if_neg h3] at hat
        simp +decide -dsimp -implicitDefEqProofs [go_sem, h2, hlk, h3, wq]
        refine next_of (q + 1) (by show q + 1 ≤ LW.length; omega) (by show LW.length - (q + 1) < LW.length - q; omega) (cut_of (by simp) ?_)
        rw [hat, hx]
        simp +decide -dsimp -implicitDefEqProofs [go_sem, hcl, hlc, tapeO, hce]
        exact hmc _ _
    · have e2 : q = LW.length := by omega
      subst e2
      rw [List.take_length] at hx
      have hne : ∀ x, atL LW ask = some x → x.name ≠ [] := fun x h => hun x (List.mem_of_find?_eq_some h)
      generalize atL LW ask = at1 at hx cW hne
      cases at1 with
      | none =>
        simp only [atRow, List.cons.injEq, AV.str.injEq, and_true] at hx
        obtain ⟨rfl, rfl, rfl⟩ := hx
        simp only [atRow, Option.isSome_none] at cW
        simp +decide -dsimp -implicitDefEqProofs [go_sem]
        refine callE_frame [1, 2] cW rfl rfl (by simp) (by simp +decide -dsimp -implicitDefEqProofs [go_sem]) (by simp +decide -dsimp -implicitDefEqProofs [go_sem, hmr]) ?_
        simp +decide -dsimp -implicitDefEqProofs [go_sem, hmr, wi]
        refine next_of ⟨i + 1, k' + 1, m', W⟩ ⟨by show i + 1 ≤ n; omega, by show k' + 1 ≤ 1 + 21 * (i + 1); omega, hT'⟩ (by show n - (i + 1) < n - i; omega) (cut_of (by simp) ?_)
        simp +decide -dsimp -implicitDefEqProofs [go_sem, hcl, tapeO]
        exact hmc _ _
      | some x =>
        have hxn := hne x rfl
        simp only [atRow, lkRow, List.cons.injEq, AV.str.injEq, and_true] at hx
        obtain ⟨rfl, rfl, rfl⟩ := hx
        simp only [atRow, lkRow, Option.isSome_some] at cW
        simp +decide -dsimp -implicitDefEqProofs [go_sem]
        refine callE_frame [1, 2] cW rfl rfl (by simp) (by simp +decide -dsimp -implicitDefEqProofs [go_sem]) (by simp +decide -dsimp -implicitDefEqProofs [go_sem, hmr]) ?_
        simp +decide -dsimp -implicitDefEqProofs [go_sem, hmr, wi, hxn]
        refine next_of ⟨i + 1, k' + 1, m', W⟩ ⟨by show i + 1 ≤ n; omega, by show k' + 1 ≤ 1 + 21 * (i + 1); omega, hT'⟩ (by show n - (i + 1) < n - i; omega) (cut_of (by simp) ?_)
        simp +decide -dsimp -implicitDefEqProofs [go_sem, hcl, tapeO]
        exact hmc _ _
  have e : i = n := by omega
  subst e
  simp +decide -dsimp -implicitDefEqProofs [go_sem]
end Go.Ab
