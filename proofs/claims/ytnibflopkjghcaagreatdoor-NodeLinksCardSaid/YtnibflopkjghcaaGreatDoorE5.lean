/- The law NodeLinks: the walk. -/
import Derived.Test.YtnibflopkjghcaaGreatDoorX4
import Derived.Test.YtnibflopkjghcaaGreatDoorX5
namespace Go.Ab
open Go Go.Proofs Go.Sort
set_option maxRecDepth 20000
set_option maxHeartbeats 8000000 in
theorem NodeLinks_c (l : List Int) : ACalls Tryz.prog 5 [tapeVs l] [] (.bool true) [] := by
  have hcl := fun k (T : List Dvc) => dcRows_cl k T
  have hrl := fun k (l : List Rcd) => rcRows_cl k l
  have hlc := closedLL_lkRows
  have hrd := renLL_dcRows
  have hrr := renLL_rcRows
  have ct : ACallsR Tryz.prog 10 [.ptr 0 0, .int .i64 9] [tapeO l 0] (treeR l 0 9) := tree_c l 0 9 (by omega) (by omega)
  refine acalls_F c5_ok rfl ?_
  unfold c5 tapeVs
  simp +decide -dsimp -implicitDefEqProofs [go_sem]
  rw [tape0]
  refine callE_frameR [0] ct rfl (fun v G ⟨_, _, _, hG, _⟩ => by rw [hG]; rfl) (by simp) (by simp +decide -dsimp -implicitDefEqProofs [go_sem]) (by simp +decide -dsimp -implicitDefEqProofs [go_sem, tapeO_ren]) ?_
  rintro _ _ ⟨T, k, rfl, rfl, hT, hl, hk⟩
  have cr := records_c l k T (by omega) hT (by omega)
  simp +decide -dsimp -implicitDefEqProofs [go_sem, tapeO_ren, hrd]
  refine callE_frameR [0] cr rfl (fun v G ⟨_, _, _, hG, _⟩ => by rw [hG]; rfl) (by simp) (by simp +decide -dsimp -implicitDefEqProofs [go_sem, hrd]) (by simp +decide -dsimp -implicitDefEqProofs [go_sem, tapeO_ren]) ?_
  rintro _ _ ⟨rs, k2, rfl, rfl, hR, hr, hk2⟩
  have hN := nok_of hT hl hR hr
  have s1 := sameLinks_c (lnkN T rs) (by have := hN.len; omega)
  have p1 := links_c hN
  have p2 := rLinks_c hN
  generalize lnkN T rs = L at p1 p2 s1
  simp +decide -dsimp -implicitDefEqProofs [go_sem, tapeO_ren, hrr]
  refine callDE_pure p1 (by simp +decide -dsimp -implicitDefEqProofs [go_sem, hcl, hrl]) (by simp +decide -dsimp -implicitDefEqProofs [go_sem, hlc]) ?_
  simp +decide -dsimp -implicitDefEqProofs [go_sem]
  refine callDE_pure p2 (by simp +decide -dsimp -implicitDefEqProofs [go_sem, hcl, hrl]) (by simp +decide -dsimp -implicitDefEqProofs [go_sem, hlc]) ?_
  simp +decide -dsimp -implicitDefEqProofs [go_sem]
  refine callDE_pure s1 (by simp +decide -dsimp -implicitDefEqProofs [go_sem, hlc]) rfl ?_
  simp +decide -dsimp -implicitDefEqProofs [go_sem]
  refine callDE_pure known_c rfl rfl ?_
  simp +decide -dsimp -implicitDefEqProofs [go_sem]
end Go.Ab
