/- A layer of abstract values over the model, and what is proved with it: part K7. -/
import Derived.Test.YtpknaffdaemlbaaGreatDoorCX
import Derived.Test.YtpknaffdaemlbaaGreatDoorAA
import Derived.Test.YtpknaffdaemlbaaGreatDoorK3
import Derived.Test.YtpknaffdaemlbaaGreatDoorSK
namespace Go.Ab
open Go Go.Proofs
def c7 : AFn := ⟨(.seq (.ops [⟨(some 2), (.mov (.v (.bool false))), none⟩]) (.seq (.ops [⟨(some 16), (.mov (.t 0)), none⟩, ⟨(some 17), (.build [.nils, (.int .i64 0)] [(0, (1, (.t 16)))]), none⟩, ⟨(some 18), (.box 25 (.t 17)), none⟩, ⟨(some 3), (.mov (.t 18)), none⟩]) (.seq (.ops [⟨(some 19), (.call (.v (.fn (.func 12) [] [])) []), none⟩, ⟨(some 4), (.mov (.t 19)), none⟩]) (.seq (.seq (.ops [⟨(some 20), (.mov (.t 4)), none⟩, ⟨(some 21), (.ext (.pnil false) [(.t 20)]), none⟩]) (.cond (.t 21) (.seq (.ops [⟨(some 2), (.mov (.v (.bool false))), none⟩]) .ret) .skip)) (.seq (.seq (.ops [⟨(some 22), (.mov (.t 3)), none⟩, ⟨(some 23), (.call (.v (.fn (.func 13) [] [])) [(.t 22), (.v (.int .i64 10))]), none⟩, ⟨(some 5), (.mov (.t 23)), none⟩]) (.block 0 (.loop (.seq (.seq (.ops [⟨(some 24), (.mov (.t 5)), none⟩, ⟨(some 25), (.bin .gtr (.t 24) (.v (.int .i64 0))), none⟩]) (.cond (.t 25) .skip (.exit 0))) (.seq (.block 1 (.seq (.ops [⟨(some 28), (.mov (.t 4)), none⟩, ⟨(some 29), (.mov (.t 3)), none⟩, ⟨(some 30), (.mov (.t 3)), none⟩, ⟨(some 31), (.call (.v (.fn (.func 15) [] [])) [(.t 30)]), none⟩, ⟨(some 32), (.mov (.t 3)), none⟩, ⟨(some 33), (.call (.v (.fn (.func 13) [] [])) [(.t 32), (.v (.int .i64 9))]), none⟩, ⟨(some 34), (.bin .add (.v (.int .i64 1)) (.t 33)), none⟩, ⟨(some 35), (.call (.v (.fn (.func 17) [] [])) [(.t 29), (.t 31), (.t 34)]), none⟩, ⟨(some 36), (.call (.v (.fn (.func 18) [] [])) [(.t 28), (.t 35)]), none⟩, ⟨(some 37), (.bin .neq (.t 36) (.v (.int .i64 0))), none⟩]) (.cond (.t 37) (.seq (.ops [⟨(some 2), (.mov (.v (.bool false))), none⟩]) .ret) .skip))) (.ops [⟨(some 26), (.mov (.t 5)), none⟩, ⟨(some 27), (.bin .sub (.t 26) (.v (.int .i64 1))), none⟩, ⟨(some 5), (.mov (.t 27)), none⟩])))))) (.seq (.ops [⟨(some 38), (.mov (.t 4)), none⟩, ⟨(some 39), (.call (.v (.fn (.func 28) [] [])) [(.t 38)]), none⟩, ⟨(some 40), (.mov (.t 4)), none⟩, ⟨(some 41), (.call (.v (.fn (.func 24) [] [])) [(.t 40)]), none⟩, ⟨(some 6), (.mov (.t 39)), none⟩, ⟨(some 7), (.mov (.t 41)), none⟩]) (.seq (.seq (.ops [⟨(some 42), (.mov (.t 6)), none⟩, ⟨(some 43), (.len .sl (.t 42)), none⟩, ⟨(some 44), (.mov (.t 7)), none⟩, ⟨(some 45), (.len .sl (.t 44)), none⟩, ⟨(some 46), (.bin .neq (.t 43) (.t 45)), none⟩]) (.cond (.t 46) (.seq (.ops [⟨(some 2), (.mov (.v (.bool false))), none⟩]) .ret) .skip)) (.seq (.seq (.ops [⟨(some 8), (.mov (.v (.int .i64 0))), none⟩]) (.block 2 (.loop (.seq (.seq (.ops [⟨(some 47), (.mov (.t 8)), none⟩, ⟨(some 48), (.mov (.t 6)), none⟩, ⟨(some 49), (.len .sl (.t 48)), none⟩, ⟨(some 50), (.bin .lss (.t 47) (.t 49)), none⟩]) (.cond (.t 50) .skip (.exit 2))) (.seq (.block 3 (.seq (.ops [⟨(some 54), (.mov (.t 6)), none⟩, ⟨(some 55), (.mov (.t 8)), none⟩, ⟨(some 56), (.iaddr none 12 (.t 54) (.t 55)), none⟩, ⟨(some 57), (.load (some 12) (.t 56)), none⟩, ⟨(some 58), (.call (.v (.fn (.func 30) [] [])) [(.t 57)]), none⟩, ⟨(some 53), (.mov (.t 58)), none⟩, ⟨(some 59), (.extract (.t 53) 0), none⟩, ⟨(some 60), (.extract (.t 53) 1), none⟩, ⟨(some 9), (.mov (.t 59)), none⟩, ⟨(some 10), (.mov (.t 60)), none⟩]) (.seq (.ops [⟨(some 62), (.mov (.t 6)), none⟩, ⟨(some 63), (.mov (.t 8)), none⟩, ⟨(some 64), (.iaddr none 12 (.t 62) (.t 63)), none⟩, ⟨(some 65), (.faddr 0 (.t 64)), none⟩, ⟨(some 66), (.load none (.t 65)), none⟩, ⟨(some 67), (.call (.v (.fn (.func 31) [] [])) [(.t 66)]), none⟩, ⟨(some 61), (.mov (.t 67)), none⟩, ⟨(some 68), (.extract (.t 61) 0), none⟩, ⟨(some 69), (.extract (.t 61) 1), none⟩, ⟨(some 11), (.mov (.t 68)), none⟩, ⟨(some 12), (.mov (.t 69)), none⟩]) (.seq (.ops [⟨(some 13), (.mov (.v (.bool false))), none⟩]) (.seq (.seq (.ops [⟨(some 14), (.mov (.v (.int .i64 0))), none⟩]) (.block 4 (.loop (.seq (.seq (.ops [⟨(some 70), (.mov (.t 14)), none⟩, ⟨(some 71), (.mov (.t 7)), none⟩, ⟨(some 72), (.len .sl (.t 71)), none⟩, ⟨(some 73), (.bin .lss (.t 70) (.t 72)), none⟩]) (.cond (.t 73) .skip (.exit 4))) (.seq (.block 5 (.ops [⟨(some 76), (.mov (.t 13)), none⟩, ⟨(some 77), (.mov (.t 76)), none⟩, ⟨(some 78), (.mov (.t 7)), (some (77, false))⟩, ⟨(some 79), (.mov (.t 14)), (some (77, false))⟩, ⟨(some 80), (.iaddr none 2 (.t 78) (.t 79)), (some (77, false))⟩, ⟨(some 81), (.load (some 2) (.t 80)), (some (77, false))⟩, ⟨(some 82), (.mov (.t 11)), (some (77, false))⟩, ⟨(some 83), (.mov (.t 9)), (some (77, false))⟩, ⟨(some 84), (.build [(.str []), (.str [])] [(0, (1, (.t 82))), (1, (1, (.t 83)))]), (some (77, false))⟩, ⟨(some 85), (.eqs false [(some .str), (some .str)] (.t 81) (.t 84)), (some (77, false))⟩, ⟨(some 86), (.pick (.t 77) (.v (.bool true)) (.t 85)), none⟩, ⟨(some 13), (.mov (.t 86)), none⟩])) (.ops [⟨(some 74), (.mov (.t 14)), none⟩, ⟨(some 75), (.bin .add (.t 74) (.v (.int .i64 1))), none⟩, ⟨(some 14), (.mov (.t 75)), none⟩])))))) (.seq (.ops [⟨(some 87), (.mov (.t 10)), none⟩, ⟨(some 88), (.bin .neq (.t 87) (.v (.int .i64 0))), none⟩, ⟨(some 89), (.mov (.t 88)), none⟩, ⟨(some 90), (.mov (.t 12)), (some (89, false))⟩, ⟨(some 91), (.bin .neq (.t 90) (.v (.int .i64 0))), (some (89, false))⟩, ⟨(some 92), (.pick (.t 89) (.v (.bool true)) (.t 91)), none⟩, ⟨(some 93), (.mov (.t 92)), none⟩, ⟨(some 94), (.mov (.t 13)), (some (93, false))⟩, ⟨(some 95), (.un .not (.t 94)), (some (93, false))⟩, ⟨(some 96), (.pick (.t 93) (.v (.bool true)) (.t 95)), none⟩]) (.cond (.t 96) (.seq (.ops [⟨(some 2), (.mov (.v (.bool false))), none⟩]) .ret) .skip))))))) (.ops [⟨(some 51), (.mov (.t 8)), none⟩, ⟨(some 52), (.bin .add (.t 51) (.v (.int .i64 1))), none⟩, ⟨(some 8), (.mov (.t 52)), none⟩])))))) (.seq (.ops [⟨(some 97), (.mov (.t 7)), none⟩, ⟨(some 98), (.call (.v (.fn (.func 27) [] [])) [(.t 97)]), none⟩, ⟨(some 15), (.mov (.t 98)), none⟩]) (.seq (.ops [⟨(some 99), (.mov (.t 15)), none⟩, ⟨(some 100), (.ext (.pnil true) [(.t 99)]), none⟩, ⟨(some 101), (.mov (.t 100)), none⟩, ⟨(some 102), (.mov (.t 15)), (some (101, true))⟩, ⟨(some 103), (.call (.v (.fn (.func 32) [] [])) [(.t 102)]), (some (101, true))⟩, ⟨(some 104), (.bin .eql (.t 103) (.v (.int .i64 0))), (some (101, true))⟩, ⟨(some 105), (.pick (.t 101) (.t 104) (.v (.bool false))), none⟩, ⟨(some 106), (.mov (.t 105)), none⟩, ⟨(some 107), (.mov (.t 15)), (some (106, true))⟩, ⟨(some 108), (.call (.v (.fn (.func 28) [] [])) [(.t 107)]), (some (106, true))⟩, ⟨(some 109), (.mov (.t 6)), (some (106, true))⟩, ⟨(some 110), (.call (.v (.fn (.func 33) [] [])) [(.t 108), (.t 109)]), (some (106, true))⟩, ⟨(some 111), (.pick (.t 106) (.t 110) (.v (.bool false))), none⟩, ⟨(some 112), (.mov (.t 111)), none⟩, ⟨(some 113), (.call (.v (.fn (.func 22) [] [])) []), (some (112, true))⟩, ⟨(some 114), (.pick (.t 112) (.t 113) (.v (.bool false))), none⟩, ⟨(some 2), (.mov (.t 114)), none⟩]) .ret)))))))))), 115, [(.tmp 2)]⟩
theorem c7_ok : compileF Tryz.prog [] 7 = some c7 := by kernel_rfl
end Go.Ab
namespace Go.Ab
open Go Go.Proofs
theorem renLL_eRows' (is : List Nat) (l : List (List UInt8 × List UInt8)) : renLL is (l.map eRow) = l.map eRow := by
  induction l with
  | nil => rfl
  | cons x r ih => simp [renLL, ih, eRow, renL, ren]
structure ES where
  i : Nat
  k : Nat
  seen : TMap
  pend : List Wr
structure ES.ok (n : Nat) (s : ES) : Prop where
  hi : s.i ≤ n
  hF : Fine s.seen s.i
  hW : AllW s.seen
  hk : s.k ≤ 1 + 200 * s.i
  hp : s.pend.length ≤ s.i
set_option maxRecDepth 20000 in
set_option maxHeartbeats 8000000 in
theorem DatabaseEntries_c (l : List Int) : ACalls Tryz.prog 7 [tapeVs l] [] (.bool true) [] := by
  have b0 := fold_bd (tapeV l 0) 10 (by omega)
  obtain ⟨n, hn⟩ : ∃ n : Nat, fold (tapeV l 0) 10 = n := ⟨_, (Int.toNat_of_nonneg b0.1).symm⟩
  have c0 := Next_c l 0 10 (by omega) (by omega)
  rw [hn] at b0 c0
  have hcl := wRows_cl
  have hwr := wRows_ren
  have hsr := smK_renS
  have hrc := closedLL_rRows
  have hrr := renLL_rRows
  have hec := closedLL_eRows
  have her := renLL_eRows'
  have hsc : ∀ (m : TMap) (k : Nat) (a b : AV), (a, b) ∈ smK .str m → closed k a = true ∧ closed k b = true := fun m k => smK_clm (k := k) fun _ => rfl
  have hn0 : ∀ (is : List Nat), renLL is [] = [] := fun _ => rfl
  have hrow : ∀ r : Rcd, rRow r = [.str r.path, .int .i64 r.index, .imm (r.props.map aRow), .imm (r.tags.map sRow), .imm (r.links.map sRow), .imm (r.run.map sRow), .imm (r.load.map sRow), .str r.name, .int .i64 r.prio, .str r.owner, .str r.group, .int .i64 r.mode] := fun _ => rfl
  refine acalls_F c7_ok rfl ?_
  unfold c7 tapeVs
  simp +decide -dsimp -implicitDefEqProofs [go_sem]
  rw [tape0]
  refine callE_grow [] 4 new_c rfl (fun v G h => by rw [h.2]; rfl) (by show (List.range' 1 4).Nodup; decide) rfl (by simp) ?_
  rintro _ _ ⟨rfl, rfl⟩
  simp +decide -dsimp -implicitDefEqProofs [go_sem, dbO, dbB, mO, hsr, hn0]
  refine callE_frame [0] c0 rfl rfl (by simp) (by simp +decide -dsimp -implicitDefEqProofs [go_sem]) (by simp +decide -dsimp -implicitDefEqProofs [go_sem, tapeO_ren]) ?_
  simp +decide -dsimp -implicitDefEqProofs [go_sem, tapeO_ren]
  refine loop_of (S := ES) (fun s => ⟨tmps 115 [(3, .ptr 0 0), (4, .ptr 1 0), (5, .int .i64 ((n - s.i : Nat) : Int))], [tapeO l s.k, .box 83 [.map 2, .map 3, .own 4 s.pend.length], .map (smK .str ([] : TMap)), .map (smK .str s.seen), .reg 88 1 (s.pend.map wRow)]⟩) (fun s => n - s.i) (ES.ok n) ⟨0, 1, [], []⟩ ⟨by simp, .nil, .nil, by simp, by simp⟩ (cut_of (by simp) ?_) ?_
  · simp +decide -dsimp -implicitDefEqProofs [go_sem, tapeO, smK_nil]
  rintro ⟨i, k, seen, pend⟩ ⟨hi, hF, hW, hk, hp⟩
  simp only at hi hF hW hk hp
  by_cases h : i < n
  · have h' : 0 < n - i := by omega
    have w : IntKind.i64.wrap (((n - i : Nat) : Int) - 1) = ((n - (i + 1) : Nat) : Int) := by rw [w64 (by omega) (by omega)]; omega
    simp +decide -dsimp -implicitDefEqProofs [go_sem, h']
    refine callE_frameR [0] (mPath_c l k (by omega)) rfl (fun v G ⟨_, _, _, hG, _⟩ => by rw [hG]; rfl) (by simp) (by simp +decide -dsimp -implicitDefEqProofs [go_sem]) (by simp +decide -dsimp -implicitDefEqProofs [go_sem, tapeO_ren]) ?_
    rintro _ _ ⟨p, k1, rfl, rfl, hpl, hk1⟩
    have c1 := Next_c l k1 9 (by omega) (by omega)
    have b1 := fold_bd (tapeV l k1) 9 (by omega)
    generalize fold (tapeV l k1) 9 = g at c1 b1
    have wg : IntKind.i64.wrap (1 + g) = 1 + g := w64 (by omega) (by omega)
    simp +decide -dsimp -implicitDefEqProofs [go_sem, tapeO_ren]
    refine callE_frame [0] c1 rfl rfl (by simp) (by simp +decide -dsimp -implicitDefEqProofs [go_sem]) (by simp +decide -dsimp -implicitDefEqProofs [go_sem, tapeO_ren]) ?_
    simp +decide -dsimp -implicitDefEqProofs [go_sem, tapeO_ren, wg]
    refine callE_frameR [0] (mRecord_c l (k1 + 1) p (1 + g) (by omega) hpl (by omega)) rfl (fun v G ⟨_, _, _, hG, _⟩ => by rw [hG]; rfl) (by simp) (by simp +decide -dsimp -implicitDefEqProofs [go_sem]) (by simp +decide -dsimp -implicitDefEqProofs [go_sem, tapeO_ren]) ?_
    rintro _ _ ⟨r, k2, rfl, rfl, hS, hrp, _, hk2⟩
    have cp := Put_c [] seen pend r hS (by omega) (by have := cnt_le seen; have := hF.n; omega)
    unfold dbO dbB mO at cp
    rw [hrow] at cp ⊢
    simp +decide -dsimp -implicitDefEqProofs [go_sem, tapeO_ren, renLL_sRows, renLL_aRows]
    refine callE_frame [1, 2, 3, 4] cp rfl rfl (by simp) (by simp +decide -dsimp -implicitDefEqProofs [go_sem, renLL_sRows, renLL_aRows]) (by simp +decide -dsimp -implicitDefEqProofs [go_sem, hsr, hwr]) ?_
    have kr : (entL r.path).length ≤ 1000000 := by have := entL_len r.path; have := path_small (hrp ▸ hpl); omega
    have hwc : ∀ (w : Wr) (r : List (List AV)) (is : List Nat), renLL is (wRow w :: r) = wRow w :: renLL is r := fun w r is => by rw [renLL]; simp [wRow, renL, wAV_ren]
    have hw2 : ∀ (k : Nat) (w : Wr), closedL k (wRow w) = true := wRow_cl
    simp +decide -dsimp -implicitDefEqProofs [go_sem, hsr, hwr, hwc, hn0, w]
    refine next_of ⟨i + 1, k2, setS (entL r.path) (encT r) seen, pend ++ [(entL r.path, some (encT r))]⟩ ⟨by show i + 1 ≤ n; omega, hF.set kr (enc_small hS), hW.put hS, by show k2 ≤ 1 + 200 * (i + 1); omega, by show (pend ++ [(entL r.path, some (encT r))]).length ≤ i + 1; simp; omega⟩ (by show n - (i + 1) < n - i; omega) (cut_of (by simp) ?_)
    simp +decide -dsimp -implicitDefEqProofs [go_sem, tapeO, hcl, hw2, smK_nil]
    exact hsc _ _
  · have e : i = n := by omega
    subst e
    have hF9 : Fine seen 12 := hF.le (by omega)
    have cA := All_c [] seen pend hF9 (by omega)
    have cE := hF9.ents (dur := []) (pend := pend) (by omega)
    obtain ⟨hLF, hLg⟩ := load_ents hF9 (by omega)
    have cA2 := All_c (loadM (entsL seen)) (loadM (entsL seen)) [] hLF (by omega)
    have cL := Load_c (entsL seen) (by have := hF9.entsLen; omega)
    have cP := pending_c (loadM (entsL seen)) (loadM (entsL seen)) []
    have hEl := hF9.entsLen
    have hme := fun k t => mem_ents (m := seen) hF9.o (k := k) (t := t)
    have hlen := fun l (h : AllOf seen l) => h.len hF9.o hW
    generalize entsL seen = E at cE cL cA2 cP hLg hLF hEl hme hlen
    generalize loadM E = M at cL cA2 cP hLg hLF
    unfold dbO dbB mO at cA cE cA2 cL cP
    unfold entsV at cE
    simp +decide -dsimp -implicitDefEqProofs [go_sem]
    refine callE_frameR [1, 2, 3, 4] cA rfl (fun v G h => by rw [h.1]; rfl) (by simp) (by simp +decide -dsimp -implicitDefEqProofs [go_sem]) (by simp +decide -dsimp -implicitDefEqProofs [go_sem, hsr, hwr]) ?_
    rintro _ _ ⟨rfl, all, hall, rfl⟩
    have hal := hlen all hall
    have hfit : ∀ x ∈ all, Fit x := fun x hx => (small_of ((hall.mem x).1 hx).1).few.fit
    have cSR := SameRecords_c all hfit (by omega)
    simp +decide -dsimp -implicitDefEqProofs [go_sem, hsr, hwr, hrr]
    refine callE_frame [1, 2, 3, 4] cE rfl rfl (by simp) (by simp +decide -dsimp -implicitDefEqProofs [go_sem]) (by simp +decide -dsimp -implicitDefEqProofs [go_sem, hsr, hwr]) ?_
    simp +decide -dsimp -implicitDefEqProofs [go_sem, hsr, hwr, her, hal]
    refine loop_of (S := Nat) (fun i => ⟨tmps 115 [(6, .imm (all.map rRow)), (7, .imm (E.map eRow)), (8, .int .i64 i)], []⟩) (fun i => all.length - i) (fun i => i ≤ all.length) 0 (by simp) (cut_of (by simp) ?_) ?_
    · simp +decide -dsimp -implicitDefEqProofs [go_sem, hrc, hec]
    intro i hi
    by_cases h : i < all.length
    · have w : IntKind.i64.wrap ((i : Int) + 1) = i + 1 := w64 (by omega) (by omega)
      have hm : all[i] ∈ all := by simp
      obtain ⟨hS, hgr⟩ := (hall.mem all[i]).1 hm
      have hsm := small_of hS
      have ce := Encode_c all[i] hsm.few
      rw [(chk_ok hS).1, (chk_ok hS).2] at ce
      have cn := Entry_c all[i].path (by have := hsm.path; omega)
      unfold entV at cn
      simp only [sound_place hS, if_true] at cn
      have hmem := (hme _ _).2 hgr
      have hE : E.length = all.length := hal.symm
      have h0 : (rRow all[i])[0]? = some (.str all[i].path) := rfl
      simp +decide -dsimp -implicitDefEqProofs [go_sem, h, rRow_len, rRow_take]
      refine callE_pure ce (by simp +decide -dsimp -implicitDefEqProofs [go_sem, rRow_cl]) rfl ?_
      simp +decide -dsimp -implicitDefEqProofs [go_sem, h, hrow]
      refine callE_pure cn rfl rfl ?_
      simp +decide -dsimp -implicitDefEqProofs [go_sem]
      generalize entL all[i].path = A at hmem
      generalize encT all[i] = t at hmem
      refine loop_of (S := Nat) (fun j => ⟨tmps 115 [(6, .imm (all.map rRow)), (7, .imm (E.map eRow)), (8, .int .i64 i), (9, .str t), (10, .int .i64 0), (11, .str A), (12, .int .i64 0), (13, .bool (decide ((A, t) ∈ E.take j))), (14, .int .i64 j)], []⟩) (fun j => E.length - j) (fun j => j ≤ E.length) 0 (by simp) (cut_of (by simp) ?_) ?_
      · simp +decide -dsimp -implicitDefEqProofs [go_sem, hrc, hec]
      intro j hj
      by_cases h2 : j < E.length
      · have w2 : IntKind.i64.wrap ((j : Int) + 1) = j + 1 := w64 (by omega) (by omega)
        have htk : (A, t) ∈ E.take (j + 1) ↔ (A, t) ∈ E.take j ∨ E[j] = (A, t) := by
          rw [List.take_succ_eq_append_getElem h2, List.mem_append]
          simp [eq_comm]
        by_cases hin : (A, t) ∈ E.take j
        · have hin2 := htk.2 (.inl hin)
          simp +decide -dsimp -implicitDefEqProofs [go_sem, h2, hin, w2]
          refine next_of (j + 1) (by show j + 1 ≤ E.length; omega) (by show E.length - (j + 1) < E.length - j; omega) (cut_of (by simp) ?_)
          simp +decide -dsimp -implicitDefEqProofs [go_sem, hrc, hec, hin2]
        · by_cases he : E[j] = (A, t)
          · have hin2 := htk.2 (.inr he)
            simp +decide -dsimp -implicitDefEqProofs [go_sem, h2, hin, w2, he, eRow]
            refine next_of (j + 1) (by show j + 1 ≤ E.length; omega) (by show E.length - (j + 1) < E.length - j; omega) (cut_of (by simp) ?_)
            simp +decide -dsimp -implicitDefEqProofs [go_sem, hrc, hec, hin2]
          · have hin2 : ¬ (A, t) ∈ E.take (j + 1) := fun h => (htk.1 h).elim hin he
            have he2 : ¬ (E[j].1 = A ∧ E[j].2 = t) := fun ⟨a, b⟩ => he (by rw [← a, ← b])
            simp +decide -dsimp -implicitDefEqProofs [go_sem, h2, hin, w2, eRow]
            refine next_of (j + 1) (by show j + 1 ≤ E.length; omega) (by show E.length - (j + 1) < E.length - j; omega) (cut_of (by simp) ?_)
            simp +decide -dsimp -implicitDefEqProofs [go_sem, hrc, hec, hin2]
            exact fun a b => he2 ⟨a, b⟩
      · have e2 : j = E.length := by omega
        subst e2
        simp +decide -dsimp -implicitDefEqProofs [go_sem, hmem, w]
        refine next_of (i + 1) (by show i + 1 ≤ all.length; omega) (by show all.length - (i + 1) < all.length - i; omega) (cut_of (by simp) ?_)
        simp +decide -dsimp -implicitDefEqProofs [go_sem, hrc, hec]
    · have e : i = all.length := by omega
      subst e
      simp +decide -dsimp -implicitDefEqProofs [go_sem]
      refine callE_grow [] 4 cL rfl (fun v G h => by rw [h.2]; rfl) (by show (List.range' 0 4).Nodup; decide) (by simp +decide -dsimp -implicitDefEqProofs [go_sem, her]) (by simp) ?_
      rintro _ _ ⟨rfl, rfl⟩
      simp +decide -dsimp -implicitDefEqProofs [go_sem, hsr, hn0]
      refine callE_frame [0, 1, 2, 3] cP rfl rfl (by simp) (by simp +decide -dsimp -implicitDefEqProofs [go_sem]) (by simp +decide -dsimp -implicitDefEqProofs [go_sem, hsr, hn0]) ?_
      simp +decide -dsimp -implicitDefEqProofs [go_sem, hsr, hn0]
      refine callE_frameR [0, 1, 2, 3] cA2 rfl (fun v G h => by rw [h.1]; rfl) (by simp) (by simp +decide -dsimp -implicitDefEqProofs [go_sem]) (by simp +decide -dsimp -implicitDefEqProofs [go_sem, hsr, hn0]) ?_
      rintro _ _ ⟨rfl, all2, hall2, rfl⟩
      obtain rfl : all2 = all := (hall2.congr hLg).uniq hall
      simp +decide -dsimp -implicitDefEqProofs [go_sem, hsr, hn0, hrr]
      refine callE_pure cSR (by simp +decide -dsimp -implicitDefEqProofs [go_sem, hrc]) rfl ?_
      simp +decide -dsimp -implicitDefEqProofs [go_sem]
      refine callE_pure known_c rfl rfl ?_
      simp +decide -dsimp -implicitDefEqProofs [go_sem]
end Go.Ab
