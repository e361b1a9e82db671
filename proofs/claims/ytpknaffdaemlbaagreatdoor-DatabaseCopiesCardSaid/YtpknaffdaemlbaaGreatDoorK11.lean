/- The law DatabaseCopies: the walk. -/
import Derived.Test.YtpknaffdaemlbaaGreatDoorKB
namespace Go.Ab
open Go Go.Proofs Go.Sort
structure CS where
  i : Nat
  k : Nat
  dur : TMap
  seen : TMap
  pend : List Wr
structure CS.ok (n : Nat) (s : CS) : Prop where
  hi : s.i ≤ n
  hC : Cpl s.dur s.seen s.pend s.i
  hk : s.k ≤ 1 + 300 * s.i
structure CT.ok (m k0 : Nat) (s : CS) : Prop where
  hi : s.i ≤ m
  hp : s.pend.length ≤ 20
  hc : cntS s.seen ≤ 20 + s.i
  hk : s.k ≤ k0 + 200 * s.i
set_option maxRecDepth 20000 in
set_option maxHeartbeats 16000000 in
theorem DatabaseCopies_c (l : List Int) (keep : Int) : ACalls Tryz.prog 11 [tapeVs l, .int .i64 keep] [] (.bool true) [] := by
  have b0 := fold_bd (tapeV l 0) 8 (by omega)
  obtain ⟨n, hn⟩ : ∃ n : Nat, fold (tapeV l 0) 8 = n := ⟨_, (Int.toNat_of_nonneg b0.1).symm⟩
  have c0 := Next_c l 0 8 (by omega) (by omega)
  rw [hn] at b0 c0
  have hec := closedLL_eRows
  have her := renLL_eRq
  have hwR := wrR_cl
  have hsr := smK_renS
  have hwr := wRows_ren
  have hcl := wRows_cl
  have hsc : ∀ (m : TMap) (k : Nat) (a b : AV), (a, b) ∈ smK .str m → closed k a = true ∧ closed k b = true := fun m k => smK_clm (k := k) fun _ => rfl
  have hn0 : ∀ (is : List Nat), renLL is [] = [] := fun _ => rfl
  have hwRr : ∀ (is : List Nat) (l : List Wr), renLL is (l.map wrR) = l.map wrR := fun is l => by
    induction l with
    | nil => rfl
    | cons x r ih => simp [renLL, ih, wrR, renL, ren]
  have hgr : ∀ (is : List Nat) (l : List Wr), renO is (.reg 88 1 (l.map wRow)) = .reg 88 1 (l.map wRow) := fun is l => by simp only [renO, hwr]
  have hgr0 : ∀ (is : List Nat), renO is (.reg 88 1 []) = .reg 88 1 [] := fun _ => rfl
  have hbr : ∀ (is : List Nat) (d : TMap) (p : List Wr), renO is (bxW d p) = bxW d p := fun is d p => by simp only [bxW, renO, renL, ren, her, hwRr]
  have hrow : ∀ r : Rcd, rRow r = [.str r.path, .int .i64 r.index, .imm (r.props.map aRow), .imm (r.tags.map sRow), .imm (r.links.map sRow), .imm (r.run.map sRow), .imm (r.load.map sRow), .str r.name, .int .i64 r.prio, .str r.owner, .str r.group, .int .i64 r.mode] := fun _ => rfl
  refine acalls_F c11_ok rfl ?_
  unfold c11 tapeVs
  simp +decide -dsimp -implicitDefEqProofs [go_sem]
  rw [tape0]
  refine callE_grow [] 4 new_c rfl (fun v G h => by rw [h.2]; rfl) (by show (List.range' 1 4).Nodup; decide) rfl (by simp) ?_
  rintro _ _ ⟨rfl, rfl⟩
  simp +decide -dsimp -implicitDefEqProofs [go_sem, dbO, mO_ren, show ∀ n, renO [1, 2, 3, 4] (dbB 1 2 3 n) = dbB 2 3 4 n from fun _ => rfl]
  refine callE_frame [0] c0 rfl rfl (by simp) (by simp +decide -dsimp -implicitDefEqProofs [go_sem]) (by simp +decide -dsimp -implicitDefEqProofs [go_sem, tapeO_ren]) ?_
  simp +decide -dsimp -implicitDefEqProofs [go_sem, tapeO_ren]
  refine loop_of (S := CS) (fun s => ⟨tmps 71 [(1, .int .i64 keep), (5, .ptr 0 0), (6, .ptr 1 0), (7, .ptr 5 0), (8, .int .i64 ((n - s.i : Nat) : Int))], [tapeO l s.k, dbB 2 3 4 s.pend.length, mO s.dur, mO s.seen, .reg 88 1 (s.pend.map wRow), bxW s.dur s.pend]⟩) (fun s => n - s.i) (CS.ok n) ⟨0, 1, [], [], []⟩ ⟨by simp, .new, by simp⟩ (cut_of (by simp) ?_) ?_
  · simp +decide -dsimp -implicitDefEqProofs [go_sem, tapeO, dbB, mO_def, bxW, smK_nil, entsL, ksS, srtK]
  rintro ⟨i, k, dur, seen, pend⟩ ⟨hi, hC, hk⟩
  simp only at hi hC hk
  have hbx : ∀ (d : TMap) (p : List Wr), bxW d p = .box 72 [.imm ((entsL d).map eRow), .imm (p.map wrR)] := fun _ _ => rfl
  by_cases h : i < n
  · have h' : 0 < n - i := by omega
    have w : IntKind.i64.wrap (((n - i : Nat) : Int) - 1) = ((n - (i + 1) : Nat) : Int) := by rw [w64 (by omega) (by omega)]; omega
    have cs := step_c l k i dur seen pend [47, 97] [120] hC (by omega) (by omega) (by simp) (by simp)
    unfold refV at cs
    simp +decide -dsimp -implicitDefEqProofs [go_sem, h', hbx]
    refine callE_grow [0, 1, 2, 3, 4] 4 cs rfl (fun v G h => ?_) (by show ([0, 1, 2, 3, 4] ++ List.range' 6 4).Nodup; decide) (by simp +decide -dsimp -implicitDefEqProofs [go_sem, her, hwRr]) (by simp +decide -dsimp -implicitDefEqProofs [go_sem, tapeO_ren, mO_ren, hgr, dbB]) ?_
    · obtain ⟨_, _, _, _, _, _, _, rfl | ⟨_, rfl⟩ | ⟨_, rfl⟩⟩ := h <;> rfl
    rintro _ _ ⟨k', dur', seen', pend', hk', hC', rfl, hG⟩
    rcases hG with rfl | ⟨rfl, rfl⟩ | ⟨rfl, rfl⟩
    · simp +decide -dsimp -implicitDefEqProofs [go_sem, tapeO_ren, mO_ren, hgr, hbr, show ∀ m, renO [0, 1, 2, 3, 4, 6, 7, 8, 9] (dbB 2 3 4 m) = dbB 2 3 4 m from fun _ => rfl, show renO [0, 1, 2, 3, 4, 6, 7, 8, 9] .unborn = .unborn from rfl, refV, her, hwRr, w]
      refine next_of ⟨i + 1, k', dur', seen', pend'⟩ ⟨by show i + 1 ≤ n; omega, hC', by show k' ≤ 1 + 300 * (i + 1); omega⟩ (by show n - (i + 1) < n - i; omega) (cut_of (by simp) ?_)
      simp +decide -dsimp -implicitDefEqProofs [go_sem, tapeO, dbB, mO_def, bxW, hcl, hec, hwR]
      (repeat' apply And.intro) <;> first | exact hsc _ _ | omega | rfl
    · simp +decide -dsimp -implicitDefEqProofs [go_sem, tapeO_ren, mO_ren, hgr, hgr0, hbr, show renO [0, 1, 2, 3, 4, 6, 7, 8, 9] (dbB 5 3 6 0) = dbB 6 3 7 0 from rfl, refV, her, w]
      refine next_of ⟨i + 1, k', dur', seen', []⟩ ⟨by show i + 1 ≤ n; omega, hC', by show k' ≤ 1 + 300 * (i + 1); omega⟩ (by show n - (i + 1) < n - i; omega) (Wk.trans (b := ⟨tmps 71 [(1, .int .i64 keep), (5, .ptr 0 0), (6, .ptr 1 0), (7, .ptr 5 0), (8, .int .i64 ((n - (i + 1) : Nat) : Int))], [tapeO l k', dbB 6 3 7 0, mO dur, mO seen', .reg 88 1 (pend.map wRow), bxW dur' [], mO dur', .reg 88 1 []]⟩) (cut_of (by simp) ?_) (Wk.ren [0, 1, 6, 3, 7, 5] (by decide) rfl (by simp) (fun j hj => absurd hj (by simp)) (fun j m s l hj => absurd hj (by simp)) ?_ ?_))
      · simp +decide -dsimp -implicitDefEqProofs [go_sem, tapeO, dbB, mO_def, bxW, hcl, hec]
        (repeat' apply And.intro) <;> first | exact hsc _ _ | omega | rfl
      · simp +decide -dsimp -implicitDefEqProofs [go_sem, tapeO_ren, mO_ren, hgr0, hbr, dbB]
      · simp +decide -dsimp -implicitDefEqProofs [go_sem, rnT]
    · simp +decide -dsimp -implicitDefEqProofs [go_sem, tapeO_ren, mO_ren, hgr, hgr0, hbr, show renO [0, 1, 2, 3, 4, 6, 7, 8, 9] (dbB 2 5 6 0) = dbB 2 6 7 0 from rfl, refV, her, w]
      refine next_of ⟨i + 1, k', dur', seen', []⟩ ⟨by show i + 1 ≤ n; omega, hC', by show k' ≤ 1 + 300 * (i + 1); omega⟩ (by show n - (i + 1) < n - i; omega) (Wk.trans (b := ⟨tmps 71 [(1, .int .i64 keep), (5, .ptr 0 0), (6, .ptr 1 0), (7, .ptr 5 0), (8, .int .i64 ((n - (i + 1) : Nat) : Int))], [tapeO l k', dbB 2 6 7 0, mO dur', mO seen, .reg 88 1 (pend.map wRow), bxW dur' [], mO seen', .reg 88 1 []]⟩) (cut_of (by simp) ?_) (Wk.ren [0, 1, 2, 6, 7, 5] (by decide) rfl (by simp) (fun j hj => absurd hj (by simp)) (fun j m s l hj => absurd hj (by simp)) ?_ ?_))
      · simp +decide -dsimp -implicitDefEqProofs [go_sem, tapeO, dbB, mO_def, bxW, hcl, hec]
        (repeat' apply And.intro) <;> first | exact hsc _ _ | omega | rfl
      · simp +decide -dsimp -implicitDefEqProofs [go_sem, tapeO_ren, mO_ren, hgr0, hbr, dbB]
      · simp +decide -dsimp -implicitDefEqProofs [go_sem, rnT]
  · have e : i = n := by omega
    subst e
    have cC := Copy_c dur seen pend (by have := hC.hn; omega)
    unfold dbO at cC
    simp only [List.cons_append, List.nil_append] at cC
    have b5 := fold_bd (tapeV l k) 5 (by omega)
    obtain ⟨m, hm⟩ : ∃ m : Nat, fold (tapeV l k) 5 = m := ⟨_, (Int.toNat_of_nonneg b5.1).symm⟩
    have c5 := Next_c l k 5 (by omega) (by omega)
    rw [hm] at b5 c5
    simp +decide -dsimp -implicitDefEqProofs [go_sem]
    refine callE_grow [1, 2, 3, 4] 4 cC rfl (fun v G h => by rw [h.2]; rfl) (by show ([1, 2, 3, 4] ++ List.range' 6 4).Nodup; decide) (by simp +decide -dsimp -implicitDefEqProofs [go_sem]) (by simp +decide -dsimp -implicitDefEqProofs [go_sem, mO_ren, hgr, dbB]) ?_
    rintro _ _ ⟨rfl, rfl⟩
    simp +decide -dsimp -implicitDefEqProofs [go_sem, mO_ren, hgr, show ∀ q, renO [1, 2, 3, 4, 6, 7, 8, 9] (dbB 1 2 3 q) = dbB 2 3 4 q from fun _ => rfl, show ∀ q, renO [1, 2, 3, 4, 6, 7, 8, 9] (dbB 5 6 7 q) = dbB 7 8 9 q from fun _ => rfl]
    refine callE_frame [0] c5 rfl rfl (by simp) (by simp +decide -dsimp -implicitDefEqProofs [go_sem]) (by simp +decide -dsimp -implicitDefEqProofs [go_sem, tapeO_ren]) ?_
    simp +decide -dsimp -implicitDefEqProofs [go_sem, tapeO_ren]
    have hS12 : Cpl dur seen pend 12 := hC.le (by omega)
    refine loop_of (S := CS) (fun s => ⟨tmps 71 [(1, .int .i64 keep), (5, .ptr 0 0), (6, .ptr 1 0), (7, .ptr 5 0), (11, .ptr 6 0), (12, .int .i64 ((m - s.i : Nat) : Int))], [tapeO l s.k, dbB 2 3 4 (s.pend).length, mO s.dur, mO s.seen, .reg 88 1 ((s.pend).map wRow), bxW dur pend, dbB 7 8 9 pend.length, mO dur, mO seen, .reg 88 1 (pend.map wRow)]⟩) (fun s => m - s.i) (CT.ok m (k + 1)) ⟨0, k + 1, dur, seen, pend⟩ ⟨by simp, by have := hC.hn; show pend.length ≤ 20; omega, by have h1 := cnt_le seen; have h2 := hC.L.F.n; show cntS seen ≤ 20 + 0; omega, by simp⟩ (cut_of (by simp) ?_) ?_
    · simp +decide -dsimp -implicitDefEqProofs [go_sem, tapeO, dbB, mO_def, bxW, hcl, hec, hwR]
      (repeat' apply And.intro) <;> first | exact hsc _ _ | omega | rfl
    rintro ⟨j, k1, dD, sD, pD⟩ ⟨hj, hp, hc, hk1⟩
    simp only at hj hp hc hk1
    by_cases h2 : j < m
    · have h2' : 0 < m - j := by omega
      have w : IntKind.i64.wrap (((m - j : Nat) : Int) - 1) = ((m - (j + 1) : Nat) : Int) := by rw [w64 (by omega) (by omega)]; omega
      simp +decide -dsimp -implicitDefEqProofs [go_sem, h2']
      refine callE_frameR [0] (mPath_c l k1 (by omega)) rfl (fun v G ⟨_, _, _, hG, _⟩ => by rw [hG]; rfl) (by simp) (by simp +decide -dsimp -implicitDefEqProofs [go_sem]) (by simp +decide -dsimp -implicitDefEqProofs [go_sem, tapeO_ren]) ?_
      rintro _ _ ⟨p, k2, rfl, rfl, hpl, hk2⟩
      have c1 := Next_c l k2 9 (by omega) (by omega)
      have b1 := fold_bd (tapeV l k2) 9 (by omega)
      generalize fold (tapeV l k2) 9 = gi at c1 b1
      have wg : IntKind.i64.wrap (1 + gi) = 1 + gi := w64 (by omega) (by omega)
      simp +decide -dsimp -implicitDefEqProofs [go_sem, tapeO_ren]
      refine callE_frame [0] c1 rfl rfl (by simp) (by simp +decide -dsimp -implicitDefEqProofs [go_sem]) (by simp +decide -dsimp -implicitDefEqProofs [go_sem, tapeO_ren]) ?_
      simp +decide -dsimp -implicitDefEqProofs [go_sem, tapeO_ren, wg]
      refine callE_frameR [0] (mRecord_c l (k2 + 1) p (1 + gi) (by omega) hpl (by omega)) rfl (fun v G ⟨_, _, _, hG, _⟩ => by rw [hG]; rfl) (by simp) (by simp +decide -dsimp -implicitDefEqProofs [go_sem]) (by simp +decide -dsimp -implicitDefEqProofs [go_sem, tapeO_ren]) ?_
      rintro _ _ ⟨r, k3, rfl, rfl, hS, hrp, _, hk3⟩
      have cP := Put_c dD sD pD r hS (by omega) (by omega)
      have hcs := cnt_set (entL r.path) (encT r) sD
      generalize setS (entL r.path) (encT r) sD = s2 at cP hcs
      generalize pD ++ [(entL r.path, some (encT r))] = p2 at cP
      have cY := sync_c dD s2 p2
      unfold dbO at cP cY
      simp +decide -dsimp -implicitDefEqProofs [go_sem, tapeO_ren, rRow_ren]
      refine callE_frame [1, 2, 3, 4] cP rfl rfl (by simp) (by simp +decide -dsimp -implicitDefEqProofs [go_sem, rRow_ren]) (by simp +decide -dsimp -implicitDefEqProofs [go_sem, mO_ren, hgr, dbB]) ?_
      simp +decide -dsimp -implicitDefEqProofs [go_sem, mO_ren, hgr, show ∀ q, renO [1, 2, 3, 4] (dbB 1 2 3 q) = dbB 2 3 4 q from fun _ => rfl]
      refine callE_grow [1, 2, 3, 4] 2 cY rfl (fun v G h => by rw [h.2]; rfl) (by show ([1, 2, 3, 4] ++ List.range' 10 2).Nodup; decide) (by simp +decide -dsimp -implicitDefEqProofs [go_sem]) (by simp +decide -dsimp -implicitDefEqProofs [go_sem, mO_ren, hgr, dbB]) ?_
      rintro _ _ ⟨rfl, rfl⟩
      simp +decide -dsimp -implicitDefEqProofs [go_sem, mO_ren, hgr, hgr0, show renO [1, 2, 3, 4, 10, 11] (dbB 4 2 5 0) = dbB 10 3 11 0 from rfl, w]
      refine next_of ⟨j + 1, k3, s2, s2, []⟩ ⟨by show j + 1 ≤ m; omega, by simp, by show cntS s2 ≤ 20 + (j + 1); omega, by show k3 ≤ k + 1 + 200 * (j + 1); omega⟩ (by show m - (j + 1) < m - j; omega) (Wk.trans (b := ⟨tmps 71 [(1, .int .i64 keep), (5, .ptr 0 0), (6, .ptr 1 0), (7, .ptr 5 0), (11, .ptr 6 0), (12, .int .i64 ((m - (j + 1) : Nat) : Int))], [tapeO l k3, dbB 10 3 11 0, mO dD, mO s2, .reg 88 1 (p2.map wRow), bxW dur pend, dbB 7 8 9 pend.length, mO dur, mO seen, .reg 88 1 (pend.map wRow), mO s2, .reg 88 1 []]⟩) (cut_of (by simp) ?_) (Wk.ren [0, 1, 10, 3, 11, 5, 6, 7, 8, 9] (by decide) rfl (by simp) (fun j hj => absurd hj (by simp)) (fun j m s l hj => absurd hj (by simp)) ?_ ?_))
      · simp +decide -dsimp -implicitDefEqProofs [go_sem, tapeO, dbB, mO_def, bxW, hcl, hec, hwR]
        (repeat' apply And.intro) <;> first | exact hsc _ _ | omega | rfl
      · simp +decide -dsimp -implicitDefEqProofs [go_sem, tapeO_ren, mO_ren, hgr, hgr0, hbr, dbB]
      · simp +decide -dsimp -implicitDefEqProofs [go_sem, rnT]
    · have e : j = m := by omega
      subst e
      have cS := shows_c hS12 (by omega)
      have cX := crash_c dur seen pend keep (by have := hC.hn; omega)
      have rX := rCrash_c dur pend keep hC.L.o hC.L.n
      have cS2 := shows_c (hS12.crash (keepN keep pend.length) (by omega)) (by omega)
      generalize foldW dur (pend.take (keepN keep pend.length)) = dF at cX rX cS2
      unfold refV at cS rX cS2
      unfold dbO at cS cX cS2
      simp +decide -dsimp -implicitDefEqProofs [go_sem, hbx]
      refine callE_frame [6, 7, 8, 9] cS rfl rfl (by simp) (by simp +decide -dsimp -implicitDefEqProofs [go_sem, her, hwRr]) (by simp +decide -dsimp -implicitDefEqProofs [go_sem, mO_ren, hgr, dbB]) ?_
      simp +decide -dsimp -implicitDefEqProofs [go_sem, mO_ren, hgr, show ∀ q, renO [6, 7, 8, 9] (dbB 1 2 3 q) = dbB 7 8 9 q from fun _ => rfl]
      refine callE_grow [6, 7, 8, 9] 2 cX rfl (fun v G h => by rw [h.2]; rfl) (by show ([6, 7, 8, 9] ++ List.range' 10 2).Nodup; decide) (by simp +decide -dsimp -implicitDefEqProofs [go_sem]) (by simp +decide -dsimp -implicitDefEqProofs [go_sem, mO_ren, hgr, dbB]) ?_
      rintro _ _ ⟨rfl, rfl⟩
      simp +decide -dsimp -implicitDefEqProofs [go_sem, mO_ren, hgr, hgr0, show renO [6, 7, 8, 9, 10, 11] (dbB 1 4 5 0) = dbB 7 10 11 0 from rfl]
      refine callE_pure rX (by simp +decide -dsimp -implicitDefEqProofs [go_sem, hec, hwR]) (by simp +decide -dsimp -implicitDefEqProofs [go_sem, hec]) ?_
      simp +decide -dsimp -implicitDefEqProofs [go_sem]
      refine callE_frame [6, 7, 10, 11] cS2 rfl rfl (by simp) (by simp +decide -dsimp -implicitDefEqProofs [go_sem, her]) (by simp +decide -dsimp -implicitDefEqProofs [go_sem, mO_ren, hgr0, dbB]) ?_
      simp +decide -dsimp -implicitDefEqProofs [go_sem, mO_ren, hgr0]
      refine callE_pure known_c rfl rfl ?_
      simp +decide -dsimp -implicitDefEqProofs [go_sem]
end Go.Ab
