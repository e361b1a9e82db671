/- A layer of abstract values over the model, and what is proved with it: part E5. -/
import Derived.Test.YtfgannpogjphoaaGreatDoorC1
import Derived.Test.YtfgannpogjphoaaGreatDoorW3
namespace Go.Ab
open Go Go.Proofs
def c5 : AFn := ⟨(.seq (.ops [⟨(some 2), (.mov (.v (.bool false))), none⟩]) (.seq (.ops [⟨(some 11), (.mov (.t 0)), none⟩, ⟨(some 12), (.build [.nils, (.int .i64 0)] [(0, (1, (.t 11)))]), none⟩, ⟨(some 13), (.box 25 (.t 12)), none⟩, ⟨(some 3), (.mov (.t 13)), none⟩]) (.seq (.ops [⟨(some 14), (.call (.v (.fn (.func 10) [] [])) []), none⟩, ⟨(some 4), (.mov (.t 14)), none⟩]) (.seq (.seq (.ops [⟨(some 15), (.call (.v (.fn (.func 11) [] [])) []), none⟩, ⟨(some 16), (.un .not (.t 15)), none⟩, ⟨(some 17), (.mov (.t 16)), none⟩, ⟨(some 18), (.mov (.t 4)), (some (17, false))⟩, ⟨(some 19), (.ext (.pnil false) [(.t 18)]), (some (17, false))⟩, ⟨(some 20), (.pick (.t 17) (.v (.bool true)) (.t 19)), none⟩]) (.cond (.t 20) (.seq (.ops [⟨(some 2), (.mov (.v (.bool false))), none⟩]) .ret) .skip)) (.seq (.seq (.ops [⟨(some 21), (.mov (.t 3)), none⟩, ⟨(some 22), (.call (.v (.fn (.func 14) [] [])) [(.t 21), (.v (.int .i64 10))]), none⟩, ⟨(some 5), (.mov (.t 22)), none⟩]) (.block 0 (.loop (.seq (.seq (.ops [⟨(some 23), (.mov (.t 5)), none⟩, ⟨(some 24), (.bin .gtr (.t 23) (.v (.int .i64 0))), none⟩]) (.cond (.t 24) .skip (.exit 0))) (.seq (.block 1 (.ops [⟨(some 27), (.mov (.t 4)), none⟩, ⟨(some 28), (.mov (.t 3)), none⟩, ⟨(some 29), (.call (.v (.fn (.func 12) [] [])) [(.t 28)]), none⟩, ⟨(some 30), (.call (.v (.fn (.func 20) [] [])) [(.t 27), (.t 29)]), none⟩])) (.ops [⟨(some 25), (.mov (.t 5)), none⟩, ⟨(some 26), (.bin .sub (.t 25) (.v (.int .i64 1))), none⟩, ⟨(some 5), (.mov (.t 26)), none⟩])))))) (.seq (.ops [⟨(some 31), (.mov (.t 4)), none⟩, ⟨(some 32), (.call (.v (.fn (.func 17) [] [])) [(.t 31)]), none⟩, ⟨(some 33), (.mov (.t 4)), none⟩, ⟨(some 34), (.call (.v (.fn (.func 19) [] [])) [(.t 33)]), none⟩, ⟨(some 6), (.mov (.t 32)), none⟩, ⟨(some 7), (.mov (.t 34)), none⟩]) (.seq (.seq (.ops [⟨(some 8), (.mov (.v (.int .i64 0))), none⟩]) (.block 2 (.loop (.seq (.seq (.ops [⟨(some 35), (.mov (.t 8)), none⟩, ⟨(some 36), (.mov (.t 6)), none⟩, ⟨(some 37), (.len .sl (.t 36)), none⟩, ⟨(some 38), (.bin .lss (.t 35) (.t 37)), none⟩]) (.cond (.t 38) .skip (.exit 2))) (.seq (.block 3 (.seq (.seq (.ops [⟨(some 9), (.mov (.v (.int .i64 0))), none⟩]) (.block 4 (.loop (.seq (.seq (.ops [⟨(some 41), (.mov (.t 9)), none⟩, ⟨(some 42), (.mov (.t 7)), none⟩, ⟨(some 43), (.len .sl (.t 42)), none⟩, ⟨(some 44), (.bin .lss (.t 41) (.t 43)), none⟩]) (.cond (.t 44) .skip (.exit 4))) (.seq (.block 5 (.seq (.draw [⟨(some 47), (.mov (.t 6)), none⟩, ⟨(some 48), (.mov (.t 8)), none⟩, ⟨(some 49), (.iaddr none 3 (.t 47) (.t 48)), none⟩, ⟨(some 50), (.faddr 0 (.t 49)), none⟩, ⟨(some 51), (.load none (.t 50)), none⟩, ⟨(some 52), (.mov (.t 7)), none⟩, ⟨(some 53), (.mov (.t 9)), none⟩, ⟨(some 54), (.iaddr none 1 (.t 52) (.t 53)), none⟩, ⟨(some 55), (.load none (.t 54)), none⟩, ⟨(some 56), (.bin .eql (.t 51) (.t 55)), none⟩, ⟨(some 57), (.mov (.t 56)), none⟩, ⟨(some 58), (.mov (.t 6)), (some (57, false))⟩, ⟨(some 59), (.mov (.t 8)), (some (57, false))⟩, ⟨(some 60), (.iaddr none 3 (.t 58) (.t 59)), (some (57, false))⟩, ⟨(some 61), (.faddr 0 (.t 60)), (some (57, false))⟩, ⟨(some 62), (.load none (.t 61)), (some (57, false))⟩, ⟨(some 63), (.mov (.t 7)), (some (57, false))⟩, ⟨(some 64), (.mov (.t 9)), (some (57, false))⟩, ⟨(some 65), (.iaddr none 1 (.t 63) (.t 64)), (some (57, false))⟩, ⟨(some 66), (.load none (.t 65)), (some (57, false))⟩, ⟨(some 67), (.call (.v (.fn (.func 23) [] [])) [(.t 62), (.t 66)]), (some (57, false))⟩, ⟨(some 68), (.pick (.t 57) (.v (.bool true)) (.t 67)), none⟩, ⟨(some 69), (.mov (.t 68)), none⟩, ⟨(some 70), (.mov (.t 7)), (some (69, false))⟩, ⟨(some 71), (.mov (.t 9)), (some (69, false))⟩, ⟨(some 72), (.iaddr none 1 (.t 70) (.t 71)), (some (69, false))⟩, ⟨(some 73), (.load none (.t 72)), (some (69, false))⟩, ⟨(some 74), (.mov (.t 6)), (some (69, false))⟩, ⟨(some 75), (.mov (.t 8)), (some (69, false))⟩, ⟨(some 76), (.iaddr none 3 (.t 74) (.t 75)), (some (69, false))⟩, ⟨(some 77), (.faddr 0 (.t 76)), (some (69, false))⟩, ⟨(some 78), (.load none (.t 77)), (some (69, false))⟩, ⟨(some 79), (.call (.v (.fn (.func 23) [] [])) [(.t 73), (.t 78)]), (some (69, false))⟩, ⟨(some 80), (.pick (.t 69) (.v (.bool true)) (.t 79)), none⟩] [0, 0, 3, 7, 15, 0, 0, 96, 224, 511, 1023, 2047, 2047, 8191, 16383, 32767, 2047, 2047, 198655, 460799, 1048575, 2097151, 4194303, 8388607, 8388607, 33554431, 67108863, 8388607, 8388607, 411041791, 947912703, 2021654527, 4294967295, 8589934591]) (.cond (.t 80) (.seq (.ops [⟨(some 2), (.mov (.v (.bool false))), none⟩]) .ret) .skip))) (.ops [⟨(some 45), (.mov (.t 9)), none⟩, ⟨(some 46), (.bin .add (.t 45) (.v (.int .i64 1))), none⟩, ⟨(some 9), (.mov (.t 46)), none⟩])))))) (.seq (.ops [⟨(some 10), (.mov (.v (.int .i64 0))), none⟩]) (.block 6 (.loop (.seq (.seq (.ops [⟨(some 81), (.mov (.t 10)), none⟩, ⟨(some 82), (.mov (.t 6)), none⟩, ⟨(some 83), (.len .sl (.t 82)), none⟩, ⟨(some 84), (.bin .lss (.t 81) (.t 83)), none⟩]) (.cond (.t 84) .skip (.exit 6))) (.seq (.block 7 (.seq (.draw [⟨(some 87), (.mov (.t 6)), none⟩, ⟨(some 88), (.mov (.t 8)), none⟩, ⟨(some 89), (.iaddr none 3 (.t 87) (.t 88)), none⟩, ⟨(some 90), (.faddr 0 (.t 89)), none⟩, ⟨(some 91), (.load none (.t 90)), none⟩, ⟨(some 92), (.mov (.t 6)), none⟩, ⟨(some 93), (.mov (.t 10)), none⟩, ⟨(some 94), (.iaddr none 3 (.t 92) (.t 93)), none⟩, ⟨(some 95), (.faddr 0 (.t 94)), none⟩, ⟨(some 96), (.load none (.t 95)), none⟩, ⟨(some 97), (.call (.v (.fn (.func 23) [] [])) [(.t 91), (.t 96)]), none⟩, ⟨(some 98), (.mov (.t 97)), none⟩, ⟨(some 99), (.mov (.t 10)), (some (98, false))⟩, ⟨(some 100), (.mov (.t 8)), (some (98, false))⟩, ⟨(some 101), (.bin .lss (.t 99) (.t 100)), (some (98, false))⟩, ⟨(some 102), (.mov (.t 101)), (some (98, false))⟩, ⟨(some 103), (.mov (.t 6)), (some (102, true))⟩, ⟨(some 104), (.mov (.t 10)), (some (102, true))⟩, ⟨(some 105), (.iaddr none 3 (.t 103) (.t 104)), (some (102, true))⟩, ⟨(some 106), (.faddr 0 (.t 105)), (some (102, true))⟩, ⟨(some 107), (.load none (.t 106)), (some (102, true))⟩, ⟨(some 108), (.mov (.t 6)), (some (102, true))⟩, ⟨(some 109), (.mov (.t 8)), (some (102, true))⟩, ⟨(some 110), (.iaddr none 3 (.t 108) (.t 109)), (some (102, true))⟩, ⟨(some 111), (.faddr 0 (.t 110)), (some (102, true))⟩, ⟨(some 112), (.load none (.t 111)), (some (102, true))⟩, ⟨(some 113), (.bin .geq (.t 107) (.t 112)), (some (102, true))⟩, ⟨(some 114), (.pick (.t 102) (.t 113) (.v (.bool false))), (some (98, false))⟩, ⟨(some 115), (.pick (.t 98) (.v (.bool true)) (.t 114)), none⟩] [0, 0, 3, 7, 15, 0, 0, 96, 224, 480, 1023, 2047, 4095, 4095, 16383, 32767, 65535, 65535, 262143, 524287, 1048575, 65535, 65535, 6356991, 14745599, 31522815, 67108863, 134217727, 268435455]) (.cond (.t 115) (.seq (.ops [⟨(some 2), (.mov (.v (.bool false))), none⟩]) .ret) .skip))) (.ops [⟨(some 85), (.mov (.t 10)), none⟩, ⟨(some 86), (.bin .add (.t 85) (.v (.int .i64 1))), none⟩, ⟨(some 10), (.mov (.t 86)), none⟩])))))))) (.ops [⟨(some 39), (.mov (.t 8)), none⟩, ⟨(some 40), (.bin .add (.t 39) (.v (.int .i64 1))), none⟩, ⟨(some 8), (.mov (.t 40)), none⟩])))))) (.seq (.ops [⟨(some 2), (.mov (.v (.bool true))), none⟩]) .ret)))))))), 116, [(.tmp 2)]⟩
theorem c5_ok : compileF Tryz.prog [] 5 = some c5 := by kernel_rfl
end Go.Ab
namespace Go.Ab
open Go Go.Proofs Go.Sort
set_option maxRecDepth 20000
structure RS where
  i : Nat
  k : Nat
  m : SMap Own
  w : List Dv
structure RS.ok (n : Nat) (s : RS) : Prop where
  hi : s.i ≤ n
  hk : s.k ≤ 1 + 20 * s.i
  hT : Tbl puS uS s.i s.m s.w
theorem link_open {w : List Dv} {x : Lk} (h : ResOf ltP (opn (nodesW w) (clm w)) (linksW w)) (hx : x ∈ linksW w) {n : Txt} (hn : n ∈ nodesW w) : x.name ≠ n ∧ benB x.name n = false ∧ benB n x.name = false := by
  obtain ⟨c, hc, rfl, _⟩ := (h.mem x).1 hx
  have h1 := (List.mem_filter.1 hc.1).2
  simp only [voidB, Bool.not_eq_true', List.any_eq_false, nearB, Bool.or_eq_true, decide_eq_true_eq, not_or, Bool.not_eq_true] at h1
  obtain ⟨⟨h2, h3⟩, h4⟩ := h1 n hn
  exact ⟨fun e => h2 e.symm, h4, h3⟩
theorem link_ben {w : List Dv} {x y : Lk} (h : ResOf ltP (opn (nodesW w) (clm w)) (linksW w)) (hx : x ∈ linksW w) (hy : y ∈ linksW w) : benB x.name y.name = false := by
  obtain ⟨c, hc, rfl, h1⟩ := (h.mem x).1 hx
  obtain ⟨d, hd, rfl, _⟩ := (h.mem y).1 hy
  exact h1 d hd.1
set_option maxHeartbeats 16000000 in
theorem LinkApart_c (l : List Int) : ACalls Tryz.prog 5 [tapeVs l] [] (.bool true) [] := by
  have b0 := fold_bd (tapeV l 0) 10 (by omega)
  obtain ⟨n, hn⟩ : ∃ n : Nat, fold (tapeV l 0) 10 = n := ⟨_, (Int.toNat_of_nonneg b0.1).symm⟩
  have c0 := Next_c l 0 10 (by omega) (by omega)
  rw [hn] at b0 c0
  have hmc := own_clm
  have hmr := own_renK
  have hlr := renLL_lkRows
  have hlc := closedLL_lkRows
  have hlk : ∀ x : Lk, lkRow x = [.str x.name, .str x.node, .str x.path] := fun _ => rfl
  refine acalls_F c5_ok rfl ?_
  unfold c5 tapeVs
  simp +decide -dsimp -implicitDefEqProofs [go_sem]
  rw [tape0]
  refine callE_grow [] 2 new_c rfl (fun v G h => by rw [h.2]; rfl) (by show (List.range' 1 2).Nodup; decide) rfl (by simp) ?_
  rintro _ _ ⟨rfl, rfl⟩
  unfold tbO
  simp +decide -dsimp -implicitDefEqProofs [go_sem, hmr, show List.range' 1 2 = [1, 2] from rfl]
  refine callE_pure known_c rfl rfl ?_
  simp +decide -dsimp -implicitDefEqProofs [go_sem]
  refine callE_frame [0] c0 rfl rfl (by simp) (by simp +decide -dsimp -implicitDefEqProofs [go_sem]) (by simp +decide -dsimp -implicitDefEqProofs [go_sem, tapeO_ren]) ?_
  simp +decide -dsimp -implicitDefEqProofs [go_sem, tapeO_ren]
  refine loop_of (S := RS) (fun s => ⟨tmps 116 [(3, .ptr 0 0), (4, .ptr 2 0), (5, .int .i64 ((n - s.i : Nat) : Int))], [tapeO l s.k, .map (smK ownV s.m), .box 68 [.map 1]]⟩) (fun s => n - s.i) (RS.ok n) ⟨0, 1, [], []⟩ ⟨by simp, by simp, .nil⟩ (cut_of (by simp) ?_) ?_
  · simp +decide -dsimp -implicitDefEqProofs [go_sem, tapeO]
  rintro ⟨i, k, m, w⟩ ⟨hi, hk, hT⟩
  simp only at hi hk hT
  by_cases h : i < n
  · have h' : 0 < n - i := by omega
    have wi : IntKind.i64.wrap (((n - i : Nat) : Int) - 1) = ((n - (i + 1) : Nat) : Int) := by rw [w64 (by omega) (by omega)]; omega
    simp +decide -dsimp -implicitDefEqProofs [go_sem, h']
    refine callE_frameR [0] (some_c l k (by omega)) rfl (fun v G ⟨_, _, _, hG, _⟩ => by rw [hG]; rfl) (by simp) (by simp +decide -dsimp -implicitDefEqProofs [go_sem]) (by simp +decide -dsimp -implicitDefEqProofs [go_sem, tapeO_ren]) ?_
    rintro _ _ ⟨c, k', rfl, rfl, hc, hk'⟩
    have cd := do_c few_s hT (by omega) c hc
    have hcr : ∀ is, renL is (calRow c) = calRow c := fun is => by simp [calRow, renL, ren, renLL_sRows]
    unfold tbO at cd
    simp +decide -dsimp -implicitDefEqProofs [go_sem, tapeO_ren, hcr]
    refine callE_frameR [1, 2] cd rfl (fun v G ⟨_, _, hG, _⟩ => by rw [hG]; rfl) (by simp) (by simp +decide -dsimp -implicitDefEqProofs [go_sem, hcr]) (by simp +decide -dsimp -implicitDefEqProofs [go_sem, hmr]) ?_
    rintro _ _ ⟨m', rfl, rfl, hT'⟩
    unfold tbO
    simp +decide -dsimp -implicitDefEqProofs [go_sem, hmr, wi]
    refine next_of ⟨i + 1, k', m', calW w c⟩ ⟨by show i + 1 ≤ n; omega, by show k' ≤ 1 + 20 * (i + 1); omega, hT'⟩ (by show n - (i + 1) < n - i; omega) (cut_of (by simp) ?_)
    simp +decide -dsimp -implicitDefEqProofs [go_sem, tapeO]
    exact hmc _ _
  have e : i = n := by omega
  subst e
  have cL := Links_c few_s hT (by omega)
  have hml := hT.ml
  have cN := Nodes_c hT.t (by omega)
  have hR := hT.res
  have hnl := nodesW_len (w := w)
  have hwl := hT.wl few_s
  have hLl := hT.kl few_s
  have hop := fun x hx n hn => link_open (x := x) hR hx (n := n) hn
  have hbn := fun x y hx hy => link_ben (x := x) (y := y) hR hx hy
  have hasc := List.pairwise_iff_getElem.1 hR.asc
  have hus : ∀ x ∈ linksW w, x.name.length ≤ 1000 := fun x hx => by
    obtain ⟨c, hc, rfl, _⟩ := (hR.mem x).1 hx
    obtain ⟨d, hd, h3, _⟩ := clm_mem.1 (List.mem_filter.1 hc.1).1
    exact few_s.us _ (hT.u d hd _ h3)
  have hns : ∀ x ∈ nodesW w, x.length ≤ 1000 := fun x hx => by
    obtain ⟨d, hd, rfl⟩ := nodesW_mem.1 hx
    exact hT.nl d hd
  unfold tbO at cL cN
  simp +decide -dsimp -implicitDefEqProofs [go_sem]
  refine callE_frame [1, 2] cL rfl rfl (by simp) (by simp +decide -dsimp -implicitDefEqProofs [go_sem]) (by simp +decide -dsimp -implicitDefEqProofs [go_sem, hmr]) ?_
  simp +decide -dsimp -implicitDefEqProofs [go_sem, hmr, hlr]
  refine callE_frame [1, 2] cN rfl rfl (by simp) (by simp +decide -dsimp -implicitDefEqProofs [go_sem]) (by simp +decide -dsimp -implicitDefEqProofs [go_sem, hmr]) ?_
  simp +decide -dsimp -implicitDefEqProofs [go_sem, hmr]
  generalize linksW w = L at hop hbn hasc hLl hus
  generalize nodesW w = N at hop hnl hns
  refine loop_of (S := Nat) (fun i => ⟨tmps 116 [(6, .imm (L.map lkRow)), (7, .imm (N.map sRow)), (8, .int .i64 i)], []⟩) (fun i => L.length - i) (fun i => i ≤ L.length) 0 (by simp) (cut_of (by simp) ?_) ?_
  · simp +decide -dsimp -implicitDefEqProofs [go_sem, hlc]
  intro a ha
  by_cases h : a < L.length
  · have wa : IntKind.i64.wrap ((a : Int) + 1) = a + 1 := w64 (by omega) (by omega)
    have hLa : L[a] ∈ L := List.getElem_mem h
    simp +decide -dsimp -implicitDefEqProofs [go_sem, h]
    refine loop_of (S := Nat) (fun k => ⟨tmps 116 [(6, .imm (L.map lkRow)), (7, .imm (N.map sRow)), (8, .int .i64 a), (9, .int .i64 k)], []⟩) (fun k => N.length - k) (fun k => k ≤ N.length) 0 (by simp) (cut_of (by simp) ?_) ?_
    · simp +decide -dsimp -implicitDefEqProofs [go_sem, hlc]
    intro b hb
    by_cases h2 : b < N.length
    · have wb : IntKind.i64.wrap ((b : Int) + 1) = b + 1 := w64 (by omega) (by omega)
      obtain ⟨q1, q2, q3⟩ := hop _ hLa _ (List.getElem_mem h2)
      have cb1 := beneath_c L[a].name N[b] (by have := hus _ hLa; omega)
      have cb2 := beneath_c N[b] L[a].name (by have := hns _ (List.getElem_mem h2); omega)
      rw [q2] at cb1
      rw [q3] at cb2
      simp +decide -dsimp -implicitDefEqProofs [go_sem, h, h2, hlk, q1]
      refine callDE_pure cb1 rfl rfl ?_
      simp +decide -dsimp -implicitDefEqProofs [go_sem, h, h2, hlk, q1]
      refine callDE_pure cb2 rfl rfl ?_
      simp +decide -dsimp -implicitDefEqProofs [go_sem, wb]
      refine next_of (b + 1) (by show b + 1 ≤ N.length; omega) (by show N.length - (b + 1) < N.length - b; omega) (cut_of (by simp) ?_)
      simp +decide -dsimp -implicitDefEqProofs [go_sem, hlc]
    · have e2 : b = N.length := by omega
      subst e2
      simp +decide -dsimp -implicitDefEqProofs [go_sem]
      refine loop_of (S := Nat) (fun k => ⟨tmps 116 [(6, .imm (L.map lkRow)), (7, .imm (N.map sRow)), (8, .int .i64 a), (10, .int .i64 k)], []⟩) (fun k => L.length - k) (fun k => k ≤ L.length) 0 (by simp) (cut_of (by simp) ?_) ?_
      · simp +decide -dsimp -implicitDefEqProofs [go_sem, hlc]
      intro k hk2
      by_cases h3 : k < L.length
      · have wk : IntKind.i64.wrap ((k : Int) + 1) = k + 1 := w64 (by omega) (by omega)
        have hLk : L[k] ∈ L := List.getElem_mem h3
        have cb3 := beneath_c L[a].name L[k].name (by have := hus _ hLa; omega)
        rw [hbn _ _ hLa hLk] at cb3
        simp +decide -dsimp -implicitDefEqProofs [go_sem, h, h3, hlk]
        refine callDE_pure cb3 rfl rfl ?_
        by_cases h4 : k < a
        · have h4' : (k : Int) < a := by omega
          have hbl : Op.bytesLess L[k].name L[a].name = true := by rw [bytesLess_eq]; exact decide_eq_true (hasc k a h3 h h4)
          simp +decide -dsimp -implicitDefEqProofs [go_sem, h, h3, hlk, h4, hbl, wk]
          refine next_of (k + 1) (by show k + 1 ≤ L.length; omega) (by show L.length - (k + 1) < L.length - k; omega) (cut_of (by simp) ?_)
          simp +decide -dsimp -implicitDefEqProofs [go_sem, hlc]
        · simp +decide -dsimp -implicitDefEqProofs [go_sem, h4, wk]
          refine next_of (k + 1) (by show k + 1 ≤ L.length; omega) (by show L.length - (k + 1) < L.length - k; omega) (cut_of (by simp) ?_)
          simp +decide -dsimp -implicitDefEqProofs [go_sem, hlc]
      · have e3 : k = L.length := by omega
        subst e3
        simp +decide -dsimp -implicitDefEqProofs [go_sem, wa]
        refine next_of (a + 1) (by show a + 1 ≤ L.length; omega) (by show L.length - (a + 1) < L.length - a; omega) (cut_of (by simp) ?_)
        simp +decide -dsimp -implicitDefEqProofs [go_sem, hlc]
  · have e2 : a = L.length := by omega
    subst e2
    simp +decide -dsimp -implicitDefEqProofs [go_sem]
end Go.Ab
