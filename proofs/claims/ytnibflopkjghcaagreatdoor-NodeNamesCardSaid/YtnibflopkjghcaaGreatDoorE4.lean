/- Made records: what comes is known beforehand. -/
import Derived.Test.YtnibflopkjghcaaGreatDoorX2
import Derived.Test.YtnibflopkjghcaaGreatDoorX4
import Derived.Test.YtnibflopkjghcaaGreatDoorX5
namespace Go.Ab
open Go Go.Proofs Go.Sort
set_option maxRecDepth 20000
def recP (t : List Int) (k : Nat) (T : List Dvc) (d : Dvc) (p : Rcd × Nat) : Prop := RecOk T p.1 ∧ p.1.idx = d.idx ∧ p.2 ≤ k + 20 ∧ ACalls Tryz.prog 39 [.ptr 0 0, .agg [.imm (T.map dcRow)], .agg (dcRow d)] [tapeO t k] (.agg (rcRow p.1)) [tapeO t p.2]
instance : Nonempty (Rcd × Nat) := ⟨(⟨[], 0, [], [], [], [], [], [], 0, [], [], 0⟩, 0)⟩
noncomputable def recX (t : List Int) (k : Nat) (T : List Dvc) (d : Dvc) : Rcd × Nat := Classical.epsilon (recP t k T d)
theorem recX_ok (t : List Int) (k : Nat) (T : List Dvc) (hk : k < 400000000) (hT : TreeOk Fine T) (hl : T.length ≤ 100) (d : Dvc) (hd : d ∈ T) : recP t k T d (recX t k T d) := by
  obtain ⟨r, k', h1, h2, h3, h4⟩ := record_c t k T hk hT hl d hd
  exact Classical.epsilon_spec (p := recP t k T d) ⟨(r, k'), h1, h2, h3, h4⟩
noncomputable def stepX (t : List Int) (T : List Dvc) (s : List Rcd × Nat) (d : Dvc) : List Rcd × Nat :=
  if fold (tapeV t s.2) 6 = 0 then (s.1, s.2 + 1) else
    (s.1.take (fold (tapeV t (recX t (s.2 + 1) T d).2) (s.1.length + 1)).toNat ++ (recX t (s.2 + 1) T d).1 :: s.1.drop (fold (tapeV t (recX t (s.2 + 1) T d).2) (s.1.length + 1)).toNat, (recX t (s.2 + 1) T d).2 + 1)
noncomputable def seqX (t : List Int) (k : Nat) (T : List Dvc) (l : List Dvc) : List Rcd × Nat := l.foldl (stepX t T) ([], k)
theorem seqX_snoc (t : List Int) (k : Nat) (T : List Dvc) (l : List Dvc) (d : Dvc) : seqX t k T (l ++ [d]) = stepX t T (seqX t k T l) d := by rw [seqX, List.foldl_append]; rfl
structure RXt.ok (t : List Int) (T : List Dvc) (k0 : Nat) (s : RSt) : Prop extends RSt.ok T k0 s where
  e : seqX t k0 T (T.take s.i) = (s.rs, s.k)
set_option maxHeartbeats 8000000 in
theorem recordsX_c (t : List Int) (k : Nat) (T : List Dvc) (hk : k < 100000000) (hT : TreeOk Fine T) (hl : T.length ≤ 100) :
    ACalls Tryz.prog 11 [.ptr 0 0, .agg [.imm (T.map dcRow)]] [tapeO t k] (.imm ((seqX t k T T).1.map rcRow)) [tapeO t (seqX t k T T).2] ∧ RecsOk T (seqX t k T T).1 ∧ (seqX t k T T).1.length ≤ T.length := by
  have hcl := fun k (T : List Dvc) => dcRows_cl k T
  have hrl := fun k (l : List Rcd) => rcRows_cl k l
  have hrr := renLL_rcRows
  suffices hw : ACallsR Tryz.prog 11 [.ptr 0 0, .agg [.imm (T.map dcRow)]] [tapeO t k] (fun v G => v = .imm ((seqX t k T T).1.map rcRow) ∧ G = [tapeO t (seqX t k T T).2]) ∧ RecsOk T (seqX t k T T).1 ∧ (seqX t k T T).1.length ≤ T.length from ⟨hw.1.one, hw.2⟩
  have hall : ∀ i, i ≤ T.length → RXt.ok t T k ⟨i, (seqX t k T (T.take i)).2, (seqX t k T (T.take i)).1⟩ := fun i => by
    induction i with
    | zero => intro _; exact ⟨⟨by simp, by simp [seqX], by simp [seqX], ⟨by simp [seqX], by simp [seqX]⟩, by simp [seqX]⟩, rfl⟩
    | succ i ih =>
      intro h
      obtain ⟨⟨hi, hk2, hll, hR, hd⟩, _⟩ := ih (by omega)
      simp only at hi hk2 hll hR hd
      have hT1 : T.take (i + 1) = T.take i ++ [T[i]] := List.take_succ_eq_append_getElem (by omega)
      have htk : ∀ r ∈ (seqX t k T (T.take i)).1, ∃ d ∈ T.take (i + 1), d.idx = r.idx := fun r hr => by
        obtain ⟨d, h1, h2⟩ := hd r hr
        exact ⟨d, by rw [hT1]; exact List.mem_append_left _ h1, h2⟩
      refine ⟨?_, rfl⟩
      rw [hT1, seqX_snoc, stepX]
      generalize (seqX t k T (T.take i)).1 = rs at *
      generalize (seqX t k T (T.take i)).2 = k2 at *
      by_cases h6 : fold (tapeV t k2) 6 = 0
      · rw [if_pos h6]
        exact ⟨h, by show k2 + 1 ≤ k + 22 * (i + 1); omega, by show rs.length ≤ i + 1; omega, hR, htk⟩
      · rw [if_neg h6]
        obtain ⟨hro, hri, hk3, _⟩ := recX_ok t (k2 + 1) T (by omega) hT hl T[i] (List.getElem_mem _)
        generalize (recX t (k2 + 1) T T[i]).1 = r at *
        generalize (recX t (k2 + 1) T T[i]).2 = k3 at *
        generalize (fold (tapeV t k3) (rs.length + 1)).toNat = j
        have hne : ∀ q ∈ rs, q.idx ≠ r.idx := fun q hq e => by
          obtain ⟨d, h1, h2⟩ := hd q hq
          obtain ⟨x, hx, rfl⟩ := List.mem_iff_getElem.1 h1
          rw [List.length_take] at hx
          rw [List.getElem_take] at h2
          have := List.pairwise_iff_getElem.1 hT.nd x i (by omega) (by omega) (by omega)
          exact this (by rw [h2, e, hri])
        refine ⟨h, by show k3 + 1 ≤ k + 22 * (i + 1); omega, by show (rs.take j ++ r :: rs.drop j).length ≤ i + 1; simp; omega, ⟨pw_put hR.nd hne fun q hq e => hne q hq e.symm, fun q hq => ?_⟩, fun q hq => ?_⟩
        · rcases mem_put hq with rfl | hq
          · exact hro
          · exact hR.r q hq
        · rcases mem_put hq with rfl | hq
          · exact ⟨T[i], by rw [hT1]; exact List.mem_append_right _ (List.mem_singleton.2 rfl), hri.symm⟩
          · exact htk q hq
  have hfin := hall T.length (Nat.le_refl _)
  rw [List.take_length] at hfin
  refine ⟨?_, hfin.r, hfin.l⟩
  refine acalls_E (fun v G => v = .imm ((seqX t k T T).1.map rcRow) ∧ G = [tapeO t (seqX t k T T).2]) 0 c11_ok ?_
  unfold c11
  simp +decide -dsimp -implicitDefEqProofs [go_sem]
  refine loop_of (S := Nat) (fun i => ⟨tmps 44 [(0, .ptr 0 0), (3, .ptr 1 0), (5, .imm ((seqX t k T (T.take i)).1.map rcRow)), (6, .int .i64 i)], [tapeO t (seqX t k T (T.take i)).2, .box 28 [.imm (T.map dcRow)]]⟩) (fun i => T.length - i) (fun i => i ≤ T.length) 0 (by simp) ((Wk.nilI 5 rfl).trans (cut_of (by simp) ?_)) ?_
  · simp +decide -dsimp -implicitDefEqProofs [go_sem, tapeO, hcl, seqX]
  intro i hi
  by_cases h : i < T.length
  · have wi : IntKind.i64.wrap ((i : Int) + 1) = i + 1 := w64 (by omega) (by omega)
    obtain ⟨⟨_, hk2, hll, _, _⟩, _⟩ := hall i hi
    simp only at hk2 hll
    have hT1 : T.take (i + 1) = T.take i ++ [T[i]] := List.take_succ_eq_append_getElem h
    have hsn := seqX_snoc t k T (T.take i) T[i]
    rw [← hT1] at hsn
    unfold stepX at hsn
    generalize hq : seqX t k T (T.take (i + 1)) = Q at hsn
    generalize (seqX t k T (T.take i)).1 = rs at hsn hll
    generalize (seqX t k T (T.take i)).2 = k2 at hsn hk2
    have o1 := Next_c t k2 6 (by omega) (by omega)
    generalize fold (tapeV t k2) 6 = f6 at o1 hsn
    simp +decide -dsimp -implicitDefEqProofs [go_sem, h]
    refine callE_frame [0] o1 rfl rfl (by simp) (by simp +decide -dsimp -implicitDefEqProofs [go_sem]) (by simp +decide -dsimp -implicitDefEqProofs [go_sem, tapeO_ren]) ?_
    by_cases h6 : f6 = 0
    · simp +decide -dsimp -implicitDefEqProofs [go_sem, tapeO_ren, h6, wi]
      rw [if_pos h6] at hsn
      refine next_of (i + 1) (by show i + 1 ≤ T.length; omega) (by show T.length - (i + 1) < T.length - i; omega) (cut_of (by simp) ?_)
      rw [hq, hsn]
      simp +decide -dsimp -implicitDefEqProofs [go_sem, tapeO, hcl, hrl]
    · rw [if_neg h6] at hsn
      have hdT : T[i] ∈ T := List.getElem_mem h
      obtain ⟨_, _, hk3, cr⟩ := recX_ok t (k2 + 1) T (by omega) hT hl T[i] hdT
      generalize (recX t (k2 + 1) T T[i]).1 = r at cr hsn
      generalize (recX t (k2 + 1) T T[i]).2 = k3 at cr hsn hk3
      have hrc := fun k => rcRow_cl k r
      have hrn := fun is => rcRow_ren is r
      have hda := fun k => aRows_cl k T[i].attrs
      rw [dcRow_eq, rcRow_eq] at cr
      have b2 := fold_bd (tapeV t k3) (rs.length + 1) (by omega)
      have o2 := Next_c t k3 (rs.length + 1) (by omega) (by omega)
      obtain ⟨j, hj⟩ : ∃ j : Nat, fold (tapeV t k3) (rs.length + 1) = j := ⟨_, (Int.toNat_of_nonneg b2.1).symm⟩
      rw [hj] at o2 b2 hsn
      rw [Int.toNat_natCast] at hsn
      have wl : IntKind.i64.wrap ((rs.length : Int) + 1) = rs.length + 1 := w64 (by omega) (by omega)
      have hjl : j ≤ rs.length := by omega
      simp +decide -dsimp -implicitDefEqProofs [go_sem, tapeO_ren, h6, h, dcRow_eq]
      refine callDE_frame [0] cr rfl rfl (by simp) (by simp +decide -dsimp -implicitDefEqProofs [go_sem, renLL_dcRows, renLL_aRows]) (by simp +decide -dsimp -implicitDefEqProofs [go_sem, tapeO_ren]) ?_
      simp +decide -dsimp -implicitDefEqProofs [go_sem, tapeO_ren, renLL_aRows, wl]
      refine callE_frame [0] o2 rfl rfl (by simp) (by simp +decide -dsimp -implicitDefEqProofs [go_sem]) (by simp +decide -dsimp -implicitDefEqProofs [go_sem, tapeO_ren]) ?_
      have hrow : ∀ r ∈ rs.map rcRow, r.length = 12 := fun r hr => by
        obtain ⟨x, _, rfl⟩ := List.mem_map.1 hr; rfl
      have htR : List.take rs.length (rs.map rcRow) = rs.map rcRow := List.take_of_length_le (by simp)
      simp +decide -dsimp -implicitDefEqProofs [go_sem, tapeO_ren, maxLen, wi]
      refine ⟨hjl, fun _ _ => rfl, fun r hr => hrow r (List.mem_of_mem_take hr), ⟨by omega, by omega⟩, ⟨by omega, by omega⟩, hjl, fun _ _ => rfl, fun r hr => hrow r (List.mem_of_mem_take (List.mem_of_mem_drop hr)), ⟨by omega, by omega⟩, ?_⟩
      rw [htR, ← rcRow_eq]
      have hre : List.take j (rs.map rcRow) ++ rcRow r :: List.drop j (rs.map rcRow) = (rs.take j ++ r :: rs.drop j).map rcRow := by simp [List.map_take, List.map_drop]
      have hle : min j rs.length + 1 + (rs.length - j) = ((rs.take j ++ r :: rs.drop j).map rcRow).length := by simp; omega
      rw [hre, hle]
      refine next_of (i + 1) (by show i + 1 ≤ T.length; omega) (by show T.length - (i + 1) < T.length - i; omega) ((Wk.frz 5 3 rfl rfl).trans (cut_of (by simp) ?_))
      rw [hq, hsn]
      have hc1 := fun k => rcRows_cl k (rs.take j)
      have hc2 := fun k => rcRows_cl k (rs.drop j)
      simp only [List.map_take, List.map_drop] at hc1 hc2
      simp +decide -dsimp -implicitDefEqProofs [go_sem, tapeO, hcl, hc1, hc2, hrc]
  · have e : i = T.length := by omega
    subst e
    rw [List.take_length]
    simp +decide -dsimp -implicitDefEqProofs [go_sem]
    refine end_of (.imm ((seqX t k T T).1.map rcRow)) [tapeO t (seqX t k T T).2] ⟨rfl, rfl⟩ rfl ?_
    simp +decide -dsimp -implicitDefEqProofs [go_sem, tapeO, hrl]
end Go.Ab
namespace Go.Ab
open Go Go.Proofs Go.Sort
set_option maxRecDepth 20000
set_option maxHeartbeats 8000000 in
theorem NodeNames_c (raw : List Nd) (l : List Int) (_hraw : raw.length ≤ maxLen) : ACalls Tryz.prog 4 [.imm (raw.map ndRow), tapeVs l] [] (.bool true) [] := by
  have hcl := fun k (T : List Dvc) => dcRows_cl k T
  have hrl := fun k (l : List Rcd) => rcRows_cl k l
  have hnl := fun k (l : List Nd) => ndRows_cl k l
  have hrd := renLL_dcRows
  have hrr := renLL_rcRows
  have ct : ACallsR Tryz.prog 10 [.ptr 0 0, .int .i64 9] [tapeO l 0] (treeR l 0 9) := tree_c l 0 9 (by omega) (by omega)
  refine acalls_F c4_ok rfl ?_
  unfold c4 tapeVs
  by_cases h100 : (100 : Int) < raw.length
  · simp +decide -dsimp -implicitDefEqProofs [go_sem, h100]
    refine callE_pure known_c rfl rfl ?_
    simp +decide -dsimp -implicitDefEqProofs [go_sem]
  simp +decide -dsimp -implicitDefEqProofs [go_sem, h100]
  rw [tape0]
  refine callE_frameR [0] ct rfl (fun v G ⟨_, _, _, hG, _⟩ => by rw [hG]; rfl) (by simp) (by simp +decide -dsimp -implicitDefEqProofs [go_sem]) (by simp +decide -dsimp -implicitDefEqProofs [go_sem, tapeO_ren]) ?_
  rintro _ _ ⟨T, k, rfl, rfl, hT, hl, hk⟩
  obtain ⟨cr, hR, hr⟩ := recordsX_c l k T (by omega) hT (by omega)
  generalize (seqX l k T T).1 = rs at cr hR hr
  generalize (seqX l k T T).2 = k2 at cr
  have hN := nok_of hT hl hR hr
  have p1 := hN.rmk
  have l1 := hN.nl
  generalize mkN T rs = N at p1 l1
  have n1 := names_c raw (by omega)
  have n2 := rNames_c raw (by omega)
  have n3 := names_c N (by omega)
  have n4 := rNames_c N (by omega)
  have s1 := sameTexts_c (nmN raw) (by have := nmN_len raw; omega)
  have s2 := sameTexts_c (nmN N) (by have := nmN_len N; omega)
  simp +decide -dsimp -implicitDefEqProofs [go_sem, tapeO_ren, hrd]
  refine callDE_frame [0] cr rfl rfl (by simp) (by simp +decide -dsimp -implicitDefEqProofs [go_sem, hrd]) (by simp +decide -dsimp -implicitDefEqProofs [go_sem, tapeO_ren]) ?_
  simp +decide -dsimp -implicitDefEqProofs [go_sem, tapeO_ren, hrr]
  refine callDE_pure p1 (by simp +decide -dsimp -implicitDefEqProofs [go_sem, hcl, hrl]) (by simp +decide -dsimp -implicitDefEqProofs [go_sem, hnl]) ?_
  simp +decide -dsimp -implicitDefEqProofs [go_sem]
  refine callE_pure n1 (by simp +decide -dsimp -implicitDefEqProofs [go_sem, hnl]) (by simp +decide -dsimp -implicitDefEqProofs [go_sem]) ?_
  simp +decide -dsimp -implicitDefEqProofs [go_sem]
  refine callE_pure n2 (by simp +decide -dsimp -implicitDefEqProofs [go_sem, hnl]) (by simp +decide -dsimp -implicitDefEqProofs [go_sem]) ?_
  simp +decide -dsimp -implicitDefEqProofs [go_sem]
  refine callE_pure s1 (by simp +decide -dsimp -implicitDefEqProofs [go_sem]) rfl ?_
  simp +decide -dsimp -implicitDefEqProofs [go_sem]
  refine callE_pure n3 (by simp +decide -dsimp -implicitDefEqProofs [go_sem, hnl]) (by simp +decide -dsimp -implicitDefEqProofs [go_sem]) ?_
  simp +decide -dsimp -implicitDefEqProofs [go_sem]
  refine callE_pure n4 (by simp +decide -dsimp -implicitDefEqProofs [go_sem, hnl]) (by simp +decide -dsimp -implicitDefEqProofs [go_sem]) ?_
  simp +decide -dsimp -implicitDefEqProofs [go_sem]
  refine callE_pure s2 (by simp +decide -dsimp -implicitDefEqProofs [go_sem]) rfl ?_
  simp +decide -dsimp -implicitDefEqProofs [go_sem]
  refine callE_pure known_c rfl rfl ?_
  simp +decide -dsimp -implicitDefEqProofs [go_sem]
end Go.Ab
