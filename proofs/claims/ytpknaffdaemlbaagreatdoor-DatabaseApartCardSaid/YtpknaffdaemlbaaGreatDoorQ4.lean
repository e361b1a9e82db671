/- The law DatabaseApart: the walk. -/
import Derived.Test.YtpknaffdaemlbaaGreatDoorSK
import Derived.Test.YtpknaffdaemlbaaGreatDoorK3
import Derived.Test.YtpknaffdaemlbaaGreatDoorC4
namespace Go.Ab
open Go Go.Proofs
theorem renLL_eRows (is : List Nat) (l : List (List UInt8 × List UInt8)) : renLL is (l.map eRow) = l.map eRow := by
  induction l with
  | nil => rfl
  | cons x r ih => simp [renLL, ih, eRow, renL, ren]
set_option maxRecDepth 20000 in
set_option maxHeartbeats 8000000 in
theorem DatabaseApart_c (l : List Int) : ACalls Tryz.prog 4 [tapeVs l] [] (.bool true) [] := by
  have hcl := wRows_cl
  have hwr := wRows_ren
  have hsr := smK_renS
  have hsc : ∀ (m : TMap) (k : Nat) (a b : AV), (a, b) ∈ smK .str m → closed k a = true ∧ closed k b = true := fun m k => smK_clm (k := k) fun _ => rfl
  have hwc : ∀ (w : Wr) (r : List (List AV)) (is : List Nat), renLL is (wRow w :: r) = wRow w :: renLL is r := fun w r is => by rw [renLL]; simp [wRow, renL, wAV_ren]
  have hw2 : ∀ (k : Nat) (w : Wr), closedL k (wRow w) = true := wRow_cl
  have hn0 : ∀ (is : List Nat), renLL is [] = [] := fun _ => rfl
  have hrow : ∀ r : Rcd, rRow r = [.str r.path, .int .i64 r.index, .imm (r.props.map aRow), .imm (r.tags.map sRow), .imm (r.links.map sRow), .imm (r.run.map sRow), .imm (r.load.map sRow), .str r.name, .int .i64 r.prio, .str r.owner, .str r.group, .int .i64 r.mode] := fun _ => rfl
  refine acalls_F c4_ok rfl ?_
  unfold c4 tapeVs
  simp +decide -dsimp -implicitDefEqProofs [go_sem]
  rw [tape0]
  refine callE_frameR [0] (mPath_c l 0 (by omega)) rfl (fun v G ⟨_, _, _, hG, _⟩ => by rw [hG]; rfl) (by simp) (by simp +decide -dsimp -implicitDefEqProofs [go_sem]) (by simp +decide -dsimp -implicitDefEqProofs [go_sem, tapeO_ren]) ?_
  rintro _ _ ⟨pa, k1, rfl, rfl, hpa, hk1⟩
  simp +decide -dsimp -implicitDefEqProofs [go_sem, tapeO_ren]
  refine callE_frameR [0] (mRecord_c l k1 pa 1 (by omega) hpa (by decide)) rfl (fun v G ⟨_, _, _, hG, _⟩ => by rw [hG]; rfl) (by simp) (by simp +decide -dsimp -implicitDefEqProofs [go_sem]) (by simp +decide -dsimp -implicitDefEqProofs [go_sem, tapeO_ren]) ?_
  rintro _ _ ⟨a, k2, rfl, rfl, hSa, hap, _, hk2⟩
  simp +decide -dsimp -implicitDefEqProofs [go_sem, tapeO_ren]
  refine callE_frameR [0] (mPathZ_c l k2 (by omega)) rfl (fun v G ⟨_, _, _, hG, _⟩ => by rw [hG]; rfl) (by simp) (by simp +decide -dsimp -implicitDefEqProofs [go_sem]) (by simp +decide -dsimp -implicitDefEqProofs [go_sem, tapeO_ren]) ?_
  rintro _ _ ⟨pb, k3, rfl, rfl, _, hpz, hpl, hk3⟩
  simp +decide -dsimp -implicitDefEqProofs [go_sem, tapeO_ren]
  refine ⟨by omega, ?_⟩
  refine callE_frameR [0] (mRecord_c l k3 (pb ++ [47, 122]) 2 (by omega) hpz (by decide)) rfl (fun v G ⟨_, _, _, hG, _⟩ => by rw [hG]; rfl) (by simp) (by simp +decide -dsimp -implicitDefEqProofs [go_sem]) (by simp +decide -dsimp -implicitDefEqProofs [go_sem, tapeO_ren]) ?_
  rintro _ _ ⟨b, k4, rfl, rfl, hSb, hbp, _, hk4⟩
  rw [hrow a, hrow b]
  simp +decide -dsimp -implicitDefEqProofs [go_sem, tapeO_ren, renLL_sRows, renLL_aRows]
  refine callE_grow [] 4 new_c rfl (fun v G h => by rw [h.2]; rfl) (by show (List.range' 3 4).Nodup; decide) rfl (by simp) ?_
  rintro _ _ ⟨rfl, rfl⟩
  simp +decide -dsimp -implicitDefEqProofs [go_sem, dbO, dbB, mO, hsr, hn0]
  refine callE_grow [] 4 new_c rfl (fun v G h => by rw [h.2]; rfl) (by show (List.range' 7 4).Nodup; decide) rfl (by simp) ?_
  rintro _ _ ⟨rfl, rfl⟩
  simp +decide -dsimp -implicitDefEqProofs [go_sem, dbO, dbB, mO, hsr, hn0]
  by_cases hab : a.path = b.path
  · simp +decide -dsimp -implicitDefEqProofs [go_sem, hab]
    refine callE_pure known_c rfl rfl ?_
    simp +decide -dsimp -implicitDefEqProofs [go_sem, hab]
  have hAB : entL a.path ≠ entL b.path := fun e => hab (ent_inj e)
  have c0 := Next_c l k4 2 (by omega) (by omega)
  simp +decide -dsimp -implicitDefEqProofs [go_sem, hab]
  refine callE_frame [0] c0 rfl rfl (by simp) (by simp +decide -dsimp -implicitDefEqProofs [go_sem]) (by simp +decide -dsimp -implicitDefEqProofs [go_sem, tapeO_ren]) ?_
  simp +decide -dsimp -implicitDefEqProofs [go_sem, tapeO_ren]
  have kA : (entL a.path).length ≤ 1000000 := by have := entL_len a.path; have := path_small (hap ▸ hpa); omega
  have kB : (entL b.path).length ≤ 1000000 := by have := entL_len b.path; have := path_small (hbp ▸ hpz); omega
  have hpzb : placeB b.path = true := hbp ▸ hpz
  have hwn : ∀ (is : List Nat), renLL is [] = [] := fun _ => rfl
  have pA : ∀ (seen : TMap) (pend : List Wr), pend.length < 10 → Good seen 10 → ACalls Tryz.prog 18 [.ptr 0 0, .agg (rRow a)] (dbO [] seen pend) (.int .i64 0) (dbO [] (setS (entL a.path) (encT a) seen) (pend ++ [(entL a.path, some (encT a))])) := fun seen pend h1 h2 => Put_c [] seen pend a hSa (by omega) (by have := cnt_le seen; have := h2.n; omega)
  have pB : ∀ (seen : TMap) (pend : List Wr), pend.length < 10 → Good seen 10 → ACalls Tryz.prog 18 [.ptr 0 0, .agg (rRow b)] (dbO [] seen pend) (.int .i64 0) (dbO [] (setS (entL b.path) (encT b) seen) (pend ++ [(entL b.path, some (encT b))])) := fun seen pend h1 h2 => Put_c [] seen pend b hSb (by omega) (by have := cnt_le seen; have := h2.n; omega)
  have pD : ∀ (seen : TMap) (pend : List Wr), pend.length < 10 → getS (entL b.path) seen ≠ none → ACalls Tryz.prog 16 [.ptr 0 0, .str b.path] (dbO [] seen pend) (.int .i64 0) (dbO [] (delS (entL b.path) seen) (pend ++ [(entL b.path, none)])) := fun seen pend h1 h2 => (Delete_c [] seen pend b.path hpzb (by have := path_small hpzb; omega) (by omega)).1 h2
  have e1 := swap_sets hAB (encT a) (encT b)
  have e2 := swap_gone hAB (encT a) (encT b)
  rw [hrow] at pA pB
  generalize entL a.path = A at *
  generalize entL b.path = B at *
  generalize encT a = tA at *
  generalize encT b = tB at *
  obtain ⟨wA, hwA⟩ : ∃ w : Wr, w = (A, some tA) := ⟨_, rfl⟩
  obtain ⟨wB, hwB⟩ : ∃ w : Wr, w = (B, some tB) := ⟨_, rfl⟩
  obtain ⟨wD, hwD⟩ : ∃ w : Wr, w = (B, none) := ⟨_, rfl⟩
  rw [← hwA] at pA
  rw [← hwB] at pB
  rw [← hwD] at pD
  have g0 : Good ([] : TMap) 0 := .nil
  obtain ⟨sB, hsB⟩ : ∃ m : TMap, m = setS B tB [] := ⟨_, rfl⟩
  have gB := g0.set kB tB
  rw [← hsB] at gB e1 e2
  have up : ∀ {m : TMap} {n : Nat}, Good m n → n ≤ 10 → Good m 10 := fun h hn => ⟨h.o, h.k, Nat.le_trans h.n hn⟩
  by_cases hg : fold (tapeV l k4) 2 = 0
  · obtain ⟨sBA, hsBA⟩ : ∃ m : TMap, m = setS A tA sB := ⟨_, rfl⟩
    obtain ⟨sBB, hsBB⟩ : ∃ m : TMap, m = setS B tB sB := ⟨_, rfl⟩
    obtain ⟨sBAB, hsBAB⟩ : ∃ m : TMap, m = setS B tB sBA := ⟨_, rfl⟩
    have gBA := gB.set kA tA
    rw [← hsBA] at gBA e2
    have gBB := gB.set kB tB
    rw [← hsBB] at gBB e2
    have gBAB := gBA.set kB tB
    rw [← hsBAB] at gBAB e2
    obtain ⟨sX, hsX⟩ : ∃ m : TMap, m = delS B sBAB := ⟨_, rfl⟩
    obtain ⟨sY, hsY⟩ : ∃ m : TMap, m = delS B sBB := ⟨_, rfl⟩
    have gX := gBAB.del B
    rw [← hsX] at gX e2
    have gY := gBB.del B
    rw [← hsY] at gY e2
    obtain ⟨sZ, hsZ⟩ : ∃ m : TMap, m = setS A tA sY := ⟨_, rfl⟩
    have gZ := gY.set kA tA
    rw [← hsZ] at gZ e2
    have q1 := pB [] [] (by simp) (up g0 (by omega))
    rw [← hsB] at q1
    have q2 := pA sB [wB] (by simp) (up gB (by omega))
    rw [← hsBA] at q2
    have q3 := pB sB [wB] (by simp) (up gB (by omega))
    rw [← hsBB] at q3
    have q4 := pD sBB [wB, wB] (by simp) (by rw [hsBB, get_set, if_pos rfl]; simp)
    rw [← hsY] at q4
    have q5 := pB sBA [wB, wA] (by simp) (up gBA (by omega))
    rw [← hsBAB] at q5
    have q6 := pD sBAB [wB, wA, wB] (by simp) (by rw [hsBAB, get_set, if_pos rfl]; simp)
    rw [← hsX] at q6
    have q7 := pA sY [wB, wB, wD] (by simp) (up gY (by omega))
    rw [← hsZ] at q7
    have q8 := gX.ents (dur := []) (pend := [wB, wA, wB, wD]) (by omega)
    have q9 := gZ.ents (dur := []) (pend := [wB, wB, wD, wA]) (by omega)
    have qs := SameEntries_c (entsL sX) (by have := gX.entsLen; omega)
    rw [← e2] at q9
    clear hsB hsBA hsBB hsBAB hsX hsY hsZ e1 e2 pA pB pD hwA hwB hwD
    have hre : ∀ (is : List Nat), renLL is ((entsL sX).map eRow) = (entsL sX).map eRow := fun is => renLL_eRows is _
    generalize entsL sX = E at q8 q9 qs hre
    simp only [dbO, dbB, mO, List.nil_append, List.cons_append, entsV] at q1 q2 q3 q4 q5 q6 q7 q8 q9 qs
    simp +decide -dsimp -implicitDefEqProofs [go_sem, hg]
    refine callE_frame [3, 4, 5, 6] q1 rfl rfl (by simp) (by simp +decide -dsimp -implicitDefEqProofs [go_sem, renLL_sRows, renLL_aRows]) (by simp +decide -dsimp -implicitDefEqProofs [go_sem, hsr, hwn]) ?_
    simp +decide -dsimp -implicitDefEqProofs [go_sem, hg, hsr, hwc, hwn]
    refine callE_frame [7, 8, 9, 10] q1 rfl rfl (by simp) (by simp +decide -dsimp -implicitDefEqProofs [go_sem, renLL_sRows, renLL_aRows]) (by simp +decide -dsimp -implicitDefEqProofs [go_sem, hsr, hwn]) ?_
    simp +decide -dsimp -implicitDefEqProofs [go_sem, hsr, hwc, hwn]
    refine callE_frame [3, 4, 5, 6] q2 rfl rfl (by simp) (by simp +decide -dsimp -implicitDefEqProofs [go_sem, renLL_sRows, renLL_aRows]) (by simp +decide -dsimp -implicitDefEqProofs [go_sem, hsr, hwc, hwn]) ?_
    simp +decide -dsimp -implicitDefEqProofs [go_sem, hsr, hwc, hwn]
    refine callE_frame [7, 8, 9, 10] q3 rfl rfl (by simp) (by simp +decide -dsimp -implicitDefEqProofs [go_sem, renLL_sRows, renLL_aRows]) (by simp +decide -dsimp -implicitDefEqProofs [go_sem, hsr, hwc, hwn]) ?_
    simp +decide -dsimp -implicitDefEqProofs [go_sem, hsr, hwc, hwn]
    refine callE_frame [7, 8, 9, 10] q4 rfl rfl (by simp) (by simp +decide -dsimp -implicitDefEqProofs [go_sem]) (by simp +decide -dsimp -implicitDefEqProofs [go_sem, hsr, hwc, hwn]) ?_
    simp +decide -dsimp -implicitDefEqProofs [go_sem, hsr, hwc, hwn]
    refine callE_frame [3, 4, 5, 6] q5 rfl rfl (by simp) (by simp +decide -dsimp -implicitDefEqProofs [go_sem, renLL_sRows, renLL_aRows]) (by simp +decide -dsimp -implicitDefEqProofs [go_sem, hsr, hwc, hwn]) ?_
    simp +decide -dsimp -implicitDefEqProofs [go_sem, hsr, hwc, hwn]
    refine callE_frame [3, 4, 5, 6] q6 rfl rfl (by simp) (by simp +decide -dsimp -implicitDefEqProofs [go_sem]) (by simp +decide -dsimp -implicitDefEqProofs [go_sem, hsr, hwc, hwn]) ?_
    simp +decide -dsimp -implicitDefEqProofs [go_sem, hsr, hwc, hwn]
    refine callE_frame [7, 8, 9, 10] q7 rfl rfl (by simp) (by simp +decide -dsimp -implicitDefEqProofs [go_sem, renLL_sRows, renLL_aRows]) (by simp +decide -dsimp -implicitDefEqProofs [go_sem, hsr, hwc, hwn]) ?_
    simp +decide -dsimp -implicitDefEqProofs [go_sem, hsr, hwc, hwn]
    refine callE_frame [3, 4, 5, 6] q8 rfl rfl (by simp) (by simp +decide -dsimp -implicitDefEqProofs [go_sem]) (by simp +decide -dsimp -implicitDefEqProofs [go_sem, hsr, hwc, hwn]) ?_
    simp +decide -dsimp -implicitDefEqProofs [go_sem, hre, hsr, hwc, hwn]
    refine callE_frame [7, 8, 9, 10] q9 rfl rfl (by simp) (by simp +decide -dsimp -implicitDefEqProofs [go_sem]) (by simp +decide -dsimp -implicitDefEqProofs [go_sem, hsr, hwc, hwn]) ?_
    simp +decide -dsimp -implicitDefEqProofs [go_sem, hre, hsr, hwc, hwn]
    refine callE_pure qs (by simp +decide -dsimp -implicitDefEqProofs [go_sem]; exact closedLL_eRows _ _) rfl ?_
    simp +decide -dsimp -implicitDefEqProofs [go_sem]
    refine callE_pure known_c rfl rfl ?_
    simp +decide -dsimp -implicitDefEqProofs [go_sem]
  · obtain ⟨sA, hsA⟩ : ∃ m : TMap, m = setS A tA [] := ⟨_, rfl⟩
    have gA := g0.set kA tA
    rw [← hsA] at gA e1
    obtain ⟨sX, hsX⟩ : ∃ m : TMap, m = setS B tB sA := ⟨_, rfl⟩
    have gX := gA.set kB tB
    rw [← hsX] at gX e1
    obtain ⟨sZ, hsZ⟩ : ∃ m : TMap, m = setS A tA sB := ⟨_, rfl⟩
    have gZ := gB.set kA tA
    rw [← hsZ] at gZ e1
    have q1 := pA [] [] (by simp) (up g0 (by omega))
    rw [← hsA] at q1
    have q2 := pB [] [] (by simp) (up g0 (by omega))
    rw [← hsB] at q2
    have q3 := pB sA [wA] (by simp) (up gA (by omega))
    rw [← hsX] at q3
    have q4 := pA sB [wB] (by simp) (up gB (by omega))
    rw [← hsZ] at q4
    have q8 := gX.ents (dur := []) (pend := [wA, wB]) (by omega)
    have q9 := gZ.ents (dur := []) (pend := [wB, wA]) (by omega)
    have qs := SameEntries_c (entsL sX) (by have := gX.entsLen; omega)
    rw [← e1] at q9
    clear hsB hsA hsX hsZ e1 e2 pA pB pD hwA hwB hwD
    have hre : ∀ (is : List Nat), renLL is ((entsL sX).map eRow) = (entsL sX).map eRow := fun is => renLL_eRows is _
    generalize entsL sX = E at q8 q9 qs hre
    simp only [dbO, dbB, mO, List.nil_append, List.cons_append, entsV] at q1 q2 q3 q4 q8 q9 qs
    simp +decide -dsimp -implicitDefEqProofs [go_sem, hg]
    refine callE_frame [3, 4, 5, 6] q1 rfl rfl (by simp) (by simp +decide -dsimp -implicitDefEqProofs [go_sem, renLL_sRows, renLL_aRows]) (by simp +decide -dsimp -implicitDefEqProofs [go_sem, hsr, hwn]) ?_
    simp +decide -dsimp -implicitDefEqProofs [go_sem, hsr, hwc, hwn]
    refine callE_frame [7, 8, 9, 10] q2 rfl rfl (by simp) (by simp +decide -dsimp -implicitDefEqProofs [go_sem, renLL_sRows, renLL_aRows]) (by simp +decide -dsimp -implicitDefEqProofs [go_sem, hsr, hwn]) ?_
    simp +decide -dsimp -implicitDefEqProofs [go_sem, hg, hsr, hwc, hwn]
    refine callE_frame [3, 4, 5, 6] q3 rfl rfl (by simp) (by simp +decide -dsimp -implicitDefEqProofs [go_sem, renLL_sRows, renLL_aRows]) (by simp +decide -dsimp -implicitDefEqProofs [go_sem, hsr, hwc, hwn]) ?_
    simp +decide -dsimp -implicitDefEqProofs [go_sem, hg, hsr, hwc, hwn]
    refine callE_frame [7, 8, 9, 10] q4 rfl rfl (by simp) (by simp +decide -dsimp -implicitDefEqProofs [go_sem, renLL_sRows, renLL_aRows]) (by simp +decide -dsimp -implicitDefEqProofs [go_sem, hsr, hwc, hwn]) ?_
    simp +decide -dsimp -implicitDefEqProofs [go_sem, hsr, hwc, hwn]
    refine callE_frame [3, 4, 5, 6] q8 rfl rfl (by simp) (by simp +decide -dsimp -implicitDefEqProofs [go_sem]) (by simp +decide -dsimp -implicitDefEqProofs [go_sem, hsr, hwc, hwn]) ?_
    simp +decide -dsimp -implicitDefEqProofs [go_sem, hre, hsr, hwc, hwn]
    refine callE_frame [7, 8, 9, 10] q9 rfl rfl (by simp) (by simp +decide -dsimp -implicitDefEqProofs [go_sem]) (by simp +decide -dsimp -implicitDefEqProofs [go_sem, hsr, hwc, hwn]) ?_
    simp +decide -dsimp -implicitDefEqProofs [go_sem, hre, hsr, hwc, hwn]
    refine callE_pure qs (by simp +decide -dsimp -implicitDefEqProofs [go_sem]; exact closedLL_eRows _ _) rfl ?_
    simp +decide -dsimp -implicitDefEqProofs [go_sem]
    refine callE_pure known_c rfl rfl ?_
    simp +decide -dsimp -implicitDefEqProofs [go_sem]
end Go.Ab
