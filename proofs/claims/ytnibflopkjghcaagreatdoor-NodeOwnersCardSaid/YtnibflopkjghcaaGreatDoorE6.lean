/- The law NodeOwners: the walk. -/
import Derived.Test.YtnibflopkjghcaaGreatDoorX4
import Derived.Test.YtnibflopkjghcaaGreatDoorX5
namespace Go.Ab
open Go Go.Proofs Go.Sort
set_option maxRecDepth 20000
set_option maxHeartbeats 8000000 in
theorem NodeOwners_c (l : List Int) (s : Txt) : ACalls Tryz.prog 6 [tapeVs l, .str s] [] (.bool true) [] := by
  have hcl := fun k (T : List Dvc) => dcRows_cl k T
  have hrl := fun k (l : List Rcd) => rcRows_cl k l
  have hrd := renLL_dcRows
  have hrr := renLL_rcRows
  have ct : ACallsR Tryz.prog 10 [.ptr 0 0, .int .i64 9] [tapeO l 0] (treeR l 0 9) := tree_c l 0 9 (by omega) (by omega)
  refine acalls_F c6_ok rfl ?_
  unfold c6 tapeVs
  simp +decide -dsimp -implicitDefEqProofs [go_sem]
  rw [tape0]
  refine callE_frameR [0] ct rfl (fun v G ⟨_, _, _, hG, _⟩ => by rw [hG]; rfl) (by simp) (by simp +decide -dsimp -implicitDefEqProofs [go_sem]) (by simp +decide -dsimp -implicitDefEqProofs [go_sem, tapeO_ren]) ?_
  rintro _ _ ⟨T, k, rfl, rfl, hT, hl, hk⟩
  have cr := records_c l k T (by omega) hT (by omega)
  simp +decide -dsimp -implicitDefEqProofs [go_sem, tapeO_ren, hrd]
  refine callE_frameR [0] cr rfl (fun v G ⟨_, _, _, hG, _⟩ => by rw [hG]; rfl) (by simp) (by simp +decide -dsimp -implicitDefEqProofs [go_sem, hrd]) (by simp +decide -dsimp -implicitDefEqProofs [go_sem, tapeO_ren]) ?_
  rintro _ _ ⟨rs, k2, rfl, rfl, hR, hr, hk2⟩
  have hN := nok_of hT hl hR hr
  have o1 := One_c l k2 [[115, 100, 97], [115, 100, 98], [99, 47, 100, 48]] (by omega) (by decide) (by decide)
  have o2 := One_c l (k2 + 1) [[100, 105, 115, 107, 47, 97], [100, 105, 115, 107], [99, 100], [116, 116, 121, 48]] (by omega) (by decide) (by decide)
  unfold strsV at o1 o2
  generalize oneS [[115, 100, 97], [115, 100, 98], [99, 47, 100, 48]] (tapeV l k2) = a at o1
  generalize oneS [[100, 105, 115, 107, 47, 97], [100, 105, 115, 107], [99, 100], [116, 116, 121, 48]] (tapeV l (k2 + 1)) = b at o2
  simp +decide -dsimp -implicitDefEqProofs [go_sem, tapeO_ren, hrr]
  refine callE_frame [0] o1 rfl rfl (by simp) (by simp [sRow, renLL, renL, ren]) (by simp +decide -dsimp -implicitDefEqProofs [go_sem, tapeO_ren]) ?_
  simp +decide -dsimp -implicitDefEqProofs [go_sem, tapeO_ren]
  refine callE_frame [0] o2 rfl rfl (by simp) (by simp [sRow, renLL, renL, ren]) (by simp +decide -dsimp -implicitDefEqProofs [go_sem, tapeO_ren]) ?_
  simp +decide -dsimp -implicitDefEqProofs [go_sem, tapeO_ren]
  obtain ⟨X, hX⟩ : ∃ X : List Txt, X = [s, a, b] := ⟨_, rfl⟩
  have hXr : [[AV.str s], [.str a], [.str b]] = X.map sRow := by rw [hX]; rfl
  have hXl : X.length = 3 := by rw [hX]; rfl
  rw [hXr]
  clear hX hXr
  refine loop_of (S := Nat) (fun i => ⟨tmps 65 [(6, .ptr 1 0), (7, .imm (rs.map rcRow)), (8, .imm (X.map sRow)), (9, .int .i64 i)], [tapeO l (k2 + 1 + 1), .box 28 [.imm (T.map dcRow)]]⟩) (fun i => X.length - i) (fun i => i ≤ X.length) 0 (by simp) (cut_of (by simp) ?_) ?_
  · simp +decide -dsimp -implicitDefEqProofs [go_sem, tapeO, hcl, hrl]
  intro i hi
  by_cases h : i < X.length
  · have wi : IntKind.i64.wrap ((i : Int) + 1) = i + 1 := w64 (by omega) (by omega)
    have p1 := owner_c hN X[i]
    have p2 := rOwner_c hN X[i]
    obtain ⟨p, q, hv⟩ : ∃ p q, ownR (mkN T rs) (lnkN T rs) X[i] = .tup [.str p, .bool q] := by
      unfold ownR
      cases ownF (mkN T rs) (lnkN T rs) X[i] <;> exact ⟨_, _, rfl⟩
    rw [hv] at p1 p2
    generalize htv : AV.tup [.str p, .bool q] = tv at p1 p2
    have hcv : closed 0 tv = true := by rw [← htv]; rfl
    simp +decide -dsimp -implicitDefEqProofs [go_sem, h]
    refine callDE_pure p1 (by simp +decide -dsimp -implicitDefEqProofs [go_sem, hcl, hrl]) hcv ?_
    rw [← htv]
    simp +decide -dsimp -implicitDefEqProofs [go_sem, h]
    rw [← htv] at p2
    generalize htw : AV.tup [.str p, .bool q] = tw at p2
    refine callDE_pure p2 (by simp +decide -dsimp -implicitDefEqProofs [go_sem, hcl, hrl]) (by rw [← htw]; rfl) ?_
    subst htw
    simp +decide -dsimp -implicitDefEqProofs [go_sem, wi]
    refine next_of (i + 1) (by show i + 1 ≤ X.length; omega) (by show X.length - (i + 1) < X.length - i; omega) (cut_of (by simp) ?_)
    simp +decide -dsimp -implicitDefEqProofs [go_sem, tapeO, hcl, hrl]
  · have e : i = X.length := by omega
    subst e
    simp +decide -dsimp -implicitDefEqProofs [go_sem]
    refine callE_pure known_c rfl rfl ?_
    simp +decide -dsimp -implicitDefEqProofs [go_sem]
end Go.Ab
