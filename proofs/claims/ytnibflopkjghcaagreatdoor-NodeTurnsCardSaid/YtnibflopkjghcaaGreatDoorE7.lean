/- The order of records does not matter. -/
import Derived.Test.YtnibflopkjghcaaGreatDoorX4
import Derived.Test.YtnibflopkjghcaaGreatDoorX5
namespace Go.Ab
open Go Go.Proofs Go.Sort
theorem ofR_mem {rs : List Rcd} (hn : rs.Pairwise fun a b => a.idx ≠ b.idx) {r : Rcd} (h : r ∈ rs) : ofR rs r.idx = some r := by
  induction rs with
  | nil => cases h
  | cons x q ih =>
    unfold ofR at ih ⊢
    rw [List.find?_cons]
    rw [List.pairwise_cons] at hn
    rcases List.mem_cons.1 h with rfl | h
    · simp
    · have := hn.1 r h
      simp [this, ih hn.2 h]
theorem ofR_perm {rs rs' : List Rcd} (hn : rs.Pairwise fun a b => a.idx ≠ b.idx) (hp : rs'.Perm rs) (i : Int) : ofR rs' i = ofR rs i := by
  have hn' : rs'.Pairwise fun a b => a.idx ≠ b.idx := (hp.pairwise_iff fun {a b} h e => h e.symm).2 hn
  cases h : ofR rs' i with
  | some r =>
    obtain ⟨h1, rfl⟩ := ofR_some h
    rw [ofR_mem hn (hp.mem_iff.1 h1)]
  | none =>
    refine (List.find?_eq_none.2 fun x hx => ?_).symm
    exact List.find?_eq_none.1 h x (hp.mem_iff.2 hx)
theorem mk_perm {T : List Dvc} {rs rs' : List Rcd} (hn : rs.Pairwise fun a b => a.idx ≠ b.idx) (hp : rs'.Perm rs) : mkN T rs' = mkN T rs ∧ mkC T rs' = mkC T rs := by
  have h1 : ndOf rs' = ndOf rs := by funext d; unfold ndOf; rw [ofR_perm hn hp]
  have h2 : clOfD rs' = clOfD rs := by funext d; unfold clOfD; rw [ofR_perm hn hp]
  exact ⟨by unfold mkN; rw [h1], by unfold mkC; rw [h2]⟩
theorem Nok.perm {T : List Dvc} {rs rs' : List Rcd} (h : Nok T rs) (hp : rs'.Perm rs) : Nok T rs' :=
  ⟨h.t, ⟨(hp.pairwise_iff fun {a b} h e => h e.symm).2 h.r.nd, fun r hr => h.r.r r (hp.mem_iff.1 hr)⟩, h.tl, by rw [hp.length_eq]; exact h.rl⟩
theorem rot_perm {α : Type} (l : List α) (k : Nat) : (l.drop k ++ l.take k).Perm l := by
  have := List.perm_append_comm (l₁ := l.drop k) (l₂ := l.take k)
  rwa [List.take_append_drop] at this
end Go.Ab
namespace Go.Ab
open Go Go.Proofs Go.Sort
set_option maxRecDepth 20000
set_option maxHeartbeats 8000000 in
theorem NodeTurns_c (l : List Int) (v : Int) : ACalls Tryz.prog 7 [tapeVs l, .int .i64 v] [] (.bool true) [] := by
  have hcl := fun k (T : List Dvc) => dcRows_cl k T
  have hrl := fun k (l : List Rcd) => rcRows_cl k l
  have hnl := fun k (l : List Nd) => ndRows_cl k l
  have hcc := closedLL_clRows
  have hlc := closedLL_lkRows
  have hrd := renLL_dcRows
  have hrr := renLL_rcRows
  have ct : ACallsR Tryz.prog 10 [.ptr 0 0, .int .i64 9] [tapeO l 0] (treeR l 0 9) := tree_c l 0 9 (by omega) (by omega)
  refine acalls_A c7_ok rfl ?_
  unfold c7 tapeVs
  have htc := fun k => tape_closed k l
  refine awp_cut ⟨tmps 59 [(0, .imm (l.map fun v => [.int .i64 v])), (1, .int .i64 v)], []⟩ (awp_of ?_) ?_
  · simp +decide -dsimp -implicitDefEqProofs [go_sem]
    refine cut_of (by simp) ?_
    simp +decide -dsimp -implicitDefEqProofs [go_sem, htc]
  refine awp_cut ⟨tmps 59 [(1, .int .i64 v), (5, .ptr 0 0)], [tapeO l 0]⟩ (awp_of ?_) ?_
  · simp +decide -dsimp -implicitDefEqProofs [go_sem]
    refine cut_of (by simp) ?_
    simp +decide -dsimp -implicitDefEqProofs [go_sem, htc, tapeO]
  refine awp_cutX (S := List Dvc × Nat) (fun s => ⟨tmps 59 [(1, .int .i64 v), (5, .ptr 0 0), (6, .ptr 1 0)], [tapeO l s.2, .box 28 [.imm (s.1.map dcRow)]]⟩) (fun s => TreeOk Fine s.1 ∧ s.1.length ≤ 9 ∧ s.2 ≤ 0 + 1 + 20 * 9) (awp_of ?_) ?_
  · simp +decide -dsimp -implicitDefEqProofs [go_sem]
    refine callE_frameR [0] ct rfl (fun v G ⟨_, _, _, hG, _⟩ => by rw [hG]; rfl) (by simp) (by simp +decide -dsimp -implicitDefEqProofs [go_sem]) (by simp +decide -dsimp -implicitDefEqProofs [go_sem, tapeO_ren]) ?_
    rintro _ _ ⟨T, k, rfl, rfl, hT, hl, hk⟩
    simp +decide -dsimp -implicitDefEqProofs [go_sem, tapeO_ren, hrd]
    refine cutX_of (T, k) ⟨hT, hl, hk⟩ (cut_of (by simp) ?_)
    simp +decide -dsimp -implicitDefEqProofs [go_sem, htc, tapeO, hcl]
  rintro ⟨T, k⟩ ⟨hT, hl, hk⟩
  simp only at hT hl hk ⊢
  have cr := records_c l k T (by omega) hT (by omega)
  refine awp_cutX (S := List Rcd × Nat) (fun s => ⟨tmps 59 [(1, .int .i64 v), (6, .ptr 1 0), (7, .imm (s.1.map rcRow))], [tapeO l s.2, .box 28 [.imm (T.map dcRow)]]⟩) (fun s => RecsOk T s.1 ∧ s.1.length ≤ T.length) (awp_of ?_) ?_
  · simp +decide -dsimp -implicitDefEqProofs [go_sem]
    refine callE_frameR [0] cr rfl (fun v G ⟨_, _, _, hG, _⟩ => by rw [hG]; rfl) (by simp) (by simp +decide -dsimp -implicitDefEqProofs [go_sem, hrd]) (by simp +decide -dsimp -implicitDefEqProofs [go_sem, tapeO_ren]) ?_
    rintro _ _ ⟨rs, k2, rfl, rfl, hR, hr, hk2⟩
    simp +decide -dsimp -implicitDefEqProofs [go_sem, tapeO_ren, hrr]
    refine cutX_of (rs, k2) ⟨hR, hr⟩ (cut_of (by simp) ?_)
    simp +decide -dsimp -implicitDefEqProofs [go_sem, htc, tapeO, hcl, hrl]
  rintro ⟨rs, k2⟩ ⟨hR, hr⟩
  simp only at hR hr ⊢
  have hN := nok_of hT hl hR hr
  have hrl9 : rs.length ≤ 9 := by omega
  have cF := Fold_c v (rs.length + 1) (by omega)
  have bF := fold_bd v (rs.length + 1) (by omega)
  obtain ⟨j, hj⟩ : ∃ j : Nat, fold v (rs.length + 1) = j := ⟨_, (Int.toNat_of_nonneg bF.1).symm⟩
  rw [hj] at cF bF
  have wl : IntKind.i64.wrap ((rs.length : Int) + 1) = rs.length + 1 := w64 (by omega) (by omega)
  have hjl : j ≤ rs.length := by omega
  obtain ⟨R, hRd⟩ : ∃ R, R = rs.drop j ++ rs.take j := ⟨_, rfl⟩
  have hp : R.Perm rs := by rw [hRd]; exact rot_perm rs j
  have hN2 := hN.perm hp
  obtain ⟨g1, g2⟩ := mk_perm (T := T) hR.nd hp
  have g3 : lnkN T R = lnkN T rs := by unfold lnkN; rw [g1, g2]
  have s1 := sameNodes_c (mkN T rs) (by have := hN.nl; omega)
  have s2 := sameClaims_c (mkC T rs) (by have := hN.cn; omega)
  have s3 := sameLinks_c (lnkN T rs) (by have := hN.len; omega)
  have p1 := hN.mkc
  have p2 := hN2.mkc
  have p3 := hN.clc
  have p4 := hN2.clc
  have p5 := links_c hN
  have p6 := links_c hN2
  rw [g1] at p2
  rw [g2] at p4
  rw [g3] at p6
  generalize lnkN T rs = L at p5 p6 s3
  generalize mkN T rs = N at p1 p2 s1
  generalize mkC T rs = C at p3 p4 s2
  have hrow : ∀ r ∈ rs.map rcRow, r.length = 12 := fun r hr => by
    obtain ⟨x, _, rfl⟩ := List.mem_map.1 hr; rfl
  have htR : List.take rs.length (rs.map rcRow) = rs.map rcRow := List.take_of_length_le (by simp)
  refine awp_cut ⟨tmps 59 [(6, .ptr 1 0), (7, .imm (rs.map rcRow)), (8, .int .i64 j)], [tapeO l k2, .box 28 [.imm (T.map dcRow)]]⟩ (awp_of ?_) ?_
  · simp +decide -dsimp -implicitDefEqProofs [go_sem, wl]
    refine callE_pure cF rfl rfl ?_
    simp +decide -dsimp -implicitDefEqProofs [go_sem]
    refine cut_of (by simp) ?_
    simp +decide -dsimp -implicitDefEqProofs [go_sem, htc, tapeO, hcl, hrl]
  have hre : List.drop j (rs.map rcRow) ++ List.take j (rs.map rcRow) = R.map rcRow := by rw [hRd]; simp [List.map_take, List.map_drop]
  have hle : rs.length - j + min j rs.length = (R.map rcRow).length := by rw [List.length_map, hRd]; simp
  refine awp_cut ⟨tmps 59 [(6, .ptr 1 0), (7, .imm (rs.map rcRow)), (9, .imm (R.map rcRow))], [tapeO l k2, .box 28 [.imm (T.map dcRow)]]⟩ (awp_of ?_) ?_
  · simp +decide -dsimp -implicitDefEqProofs [go_sem, maxLen]
    refine ⟨hjl, fun _ _ => rfl, fun r hr => hrow r (List.mem_of_mem_take (List.mem_of_mem_drop hr)), ⟨by omega, by omega⟩, hjl, fun _ _ => rfl, fun r hr => hrow r (List.mem_of_mem_take hr), ⟨by omega, by omega⟩, ?_⟩
    rw [htR, hre, hle]
    refine (Wk.frz 9 2 rfl rfl).trans (cut_of (by simp) ?_)
    simp +decide -dsimp -implicitDefEqProofs [go_sem, htc, tapeO, hcl, hrl]
  refine awp_of ?_
  simp +decide -dsimp -implicitDefEqProofs [go_sem]
  refine callDE_pure p1 (by simp +decide -dsimp -implicitDefEqProofs [go_sem, hcl, hrl]) (by simp +decide -dsimp -implicitDefEqProofs [go_sem, hnl]) ?_
  simp +decide -dsimp -implicitDefEqProofs [go_sem]
  refine callDE_pure p2 (by simp +decide -dsimp -implicitDefEqProofs [go_sem, hcl, hrl]) (by simp +decide -dsimp -implicitDefEqProofs [go_sem, hnl]) ?_
  simp +decide -dsimp -implicitDefEqProofs [go_sem]
  refine callDE_pure s1 (by simp +decide -dsimp -implicitDefEqProofs [go_sem, hnl]) rfl ?_
  simp +decide -dsimp -implicitDefEqProofs [go_sem]
  refine callDE_pure p3 (by simp +decide -dsimp -implicitDefEqProofs [go_sem, hcl, hrl]) (by simp +decide -dsimp -implicitDefEqProofs [go_sem, hcc]) ?_
  simp +decide -dsimp -implicitDefEqProofs [go_sem]
  refine callDE_pure p4 (by simp +decide -dsimp -implicitDefEqProofs [go_sem, hcl, hrl]) (by simp +decide -dsimp -implicitDefEqProofs [go_sem, hcc]) ?_
  simp +decide -dsimp -implicitDefEqProofs [go_sem]
  refine callDE_pure s2 (by simp +decide -dsimp -implicitDefEqProofs [go_sem, hcc]) rfl ?_
  simp +decide -dsimp -implicitDefEqProofs [go_sem]
  refine callDE_pure p5 (by simp +decide -dsimp -implicitDefEqProofs [go_sem, hcl, hrl]) (by simp +decide -dsimp -implicitDefEqProofs [go_sem, hlc]) ?_
  simp +decide -dsimp -implicitDefEqProofs [go_sem]
  refine callDE_pure p6 (by simp +decide -dsimp -implicitDefEqProofs [go_sem, hcl, hrl]) (by simp +decide -dsimp -implicitDefEqProofs [go_sem, hlc]) ?_
  simp +decide -dsimp -implicitDefEqProofs [go_sem]
  refine callDE_pure s3 (by simp +decide -dsimp -implicitDefEqProofs [go_sem, hlc]) rfl ?_
  simp +decide -dsimp -implicitDefEqProofs [go_sem]
  refine callDE_pure known_c rfl rfl ?_
  simp +decide -dsimp -implicitDefEqProofs [go_sem]
end Go.Ab
