/- A layer of abstract values over the model, and what is proved with it: part E6. -/
import Derived.Test.YtfgannpogjphoaaGreatDoorC1
import Derived.Test.YtfgannpogjphoaaGreatDoorRA
namespace Go.Ab
open Go Go.Proofs
def c6 : AFn := ⟨(.seq (.ops [⟨(some 4), (.mov (.v (.bool false))), none⟩]) (.seq (.seq (.ops [⟨(some 11), (.mov (.t 1)), none⟩, ⟨(some 12), (.len .sl (.t 11)), none⟩, ⟨(some 13), (.bin .gtr (.t 12) (.v (.int .i64 40))), none⟩]) (.cond (.t 13) (.seq (.ops [⟨(some 14), (.call (.v (.fn (.func 11) [] [])) []), none⟩, ⟨(some 4), (.mov (.t 14)), none⟩]) .ret) .skip)) (.seq (.ops [⟨(some 15), (.mov (.t 0)), none⟩, ⟨(some 16), (.build [.nils, (.int .i64 0)] [(0, (1, (.t 15)))]), none⟩, ⟨(some 17), (.box 25 (.t 16)), none⟩, ⟨(some 5), (.mov (.t 17)), none⟩]) (.seq (.ops [⟨(some 6), (.mov (.v .nils)), none⟩]) (.seq (.seq (.ops [⟨(some 18), (.mov (.t 5)), none⟩, ⟨(some 19), (.call (.v (.fn (.func 14) [] [])) [(.t 18), (.v (.int .i64 7))]), none⟩, ⟨(some 7), (.mov (.t 19)), none⟩]) (.block 0 (.loop (.seq (.seq (.ops [⟨(some 20), (.mov (.t 7)), none⟩, ⟨(some 21), (.bin .gtr (.t 20) (.v (.int .i64 0))), none⟩]) (.cond (.t 21) .skip (.exit 0))) (.seq (.block 1 (.ops [⟨(some 25), (.mov (.t 6)), none⟩, ⟨(some 26), (.mov (.t 5)), none⟩, ⟨(some 27), (.call (.v (.fn (.func 12) [] [])) [(.t 26)]), none⟩, ⟨(some 28), (.call (.v (.fn (.func 24) [] [])) [(.t 25), (.t 27)]), none⟩, ⟨(some 24), (.mov (.t 28)), none⟩, ⟨(some 29), (.extract (.t 24) 0), none⟩, ⟨(some 30), (.extract (.t 24) 1), none⟩, ⟨(some 6), (.mov (.t 29)), none⟩])) (.ops [⟨(some 22), (.mov (.t 7)), none⟩, ⟨(some 23), (.bin .sub (.t 22) (.v (.int .i64 1))), none⟩, ⟨(some 7), (.mov (.t 23)), none⟩])))))) (.seq (.ops [⟨(some 31), (.mov (.t 6)), none⟩, ⟨(some 32), (.call (.v (.fn (.func 25) [] [])) [(.t 31)]), none⟩, ⟨(some 8), (.mov (.t 32)), none⟩]) (.seq (.seq (.ops [⟨(some 33), (.mov (.t 8)), none⟩, ⟨(some 34), (.len .sl (.t 33)), none⟩, ⟨(some 9), (.mov (.t 34)), none⟩]) (.seq (.ops [⟨(some 35), (.mov (.t 9)), none⟩, ⟨(some 36), (.bin .gtr (.t 35) (.v (.int .i64 1))), none⟩, ⟨(some 37), (.mov (.t 36)), none⟩, ⟨(some 38), (.mov (.t 5)), (some (37, true))⟩, ⟨(some 39), (.call (.v (.fn (.func 14) [] [])) [(.t 38), (.v (.int .i64 2))]), (some (37, true))⟩, ⟨(some 40), (.bin .eql (.t 39) (.v (.int .i64 0))), (some (37, true))⟩, ⟨(some 41), (.pick (.t 37) (.t 40) (.v (.bool false))), none⟩]) (.cond (.t 41) (.draw [⟨(some 42), (.mov (.t 8)), none⟩, ⟨(some 43), (.mov (.t 8)), none⟩, ⟨(some 44), (.mov (.t 9)), none⟩, ⟨(some 45), (.bin .sub (.t 44) (.v (.int .i64 1))), none⟩, ⟨(some 46), (.mov (.t 8)), none⟩, ⟨(some 47), (.mov (.t 9)), none⟩, ⟨(some 48), (.bin .sub (.t 47) (.v (.int .i64 1))), none⟩, ⟨(some 49), (.iaddr none 4 (.t 46) (.t 48)), none⟩, ⟨(some 50), (.load (some 4) (.t 49)), none⟩, ⟨(some 51), (.mov (.t 8)), none⟩, ⟨(some 52), (.iaddr none 4 (.t 51) (.v (.int .i64 0))), none⟩, ⟨(some 53), (.load (some 4) (.t 52)), none⟩, ⟨(some 54), (.iaddr none 4 (.t 42) (.v (.int .i64 0))), none⟩, ⟨none, (.store (some 4) (.t 54) (.t 50)), none⟩, ⟨(some 55), (.iaddr none 4 (.t 43) (.t 45)), none⟩, ⟨none, (.store (some 4) (.t 55) (.t 53)), none⟩] [0, 0, 0, 4, 0, 0, 32, 112, 240, 0, 512, 1536, 4081, 8177, 16383, 32767]) .skip))) (.seq (.seq (.ops [⟨(some 56), (.mov (.t 5)), none⟩, ⟨(some 57), (.call (.v (.fn (.func 14) [] [])) [(.t 56), (.v (.int .i64 3))]), none⟩, ⟨(some 10), (.mov (.t 57)), none⟩]) (.block 2 (.loop (.seq (.seq (.ops [⟨(some 58), (.mov (.t 10)), none⟩, ⟨(some 59), (.bin .gtr (.t 58) (.v (.int .i64 0))), none⟩]) (.cond (.t 59) .skip (.exit 2))) (.seq (.block 3 (.ops [⟨(some 62), (.mov (.t 1)), none⟩, ⟨(some 63), (.append 9 1 16 (.v .nils) (.t 62)), none⟩, ⟨(some 64), (.mov (.t 5)), none⟩, ⟨(some 65), (.bslice 9 1 false [(.v (.str [100, 47, 120])), (.v (.str [100])), (.v (.str [122])), (.v (.str [113]))]), none⟩, ⟨(some 66), (.call (.v (.fn (.func 26) [] [])) [(.t 64), (.t 65)]), none⟩, ⟨(some 67), (.bslice 9 1 false [(.t 66)]), none⟩, ⟨(some 68), (.append 9 1 16 (.t 63) (.t 67)), none⟩, ⟨(some 1), (.mov (.t 68)), none⟩])) (.ops [⟨(some 60), (.mov (.t 10)), none⟩, ⟨(some 61), (.bin .sub (.t 60) (.v (.int .i64 1))), none⟩, ⟨(some 10), (.mov (.t 61)), none⟩])))))) (.seq (.ops [⟨(some 69), (.mov (.t 1)), none⟩, ⟨(some 70), (.mov (.t 8)), none⟩, ⟨(some 71), (.call (.v (.fn (.func 27) [] [])) [(.t 69), (.t 70)]), none⟩, ⟨(some 72), (.mov (.t 1)), none⟩, ⟨(some 73), (.mov (.t 8)), none⟩, ⟨(some 74), (.call (.v (.fn (.func 28) [] [])) [(.t 72), (.t 73)]), none⟩, ⟨(some 75), (.call (.v (.fn (.func 16) [] [])) [(.t 71), (.t 74)]), none⟩, ⟨(some 76), (.mov (.t 75)), none⟩, ⟨(some 77), (.mov (.t 6)), (some (76, true))⟩, ⟨(some 78), (.call (.v (.fn (.func 29) [] [])) [(.t 77)]), (some (76, true))⟩, ⟨(some 79), (.mov (.t 8)), (some (76, true))⟩, ⟨(some 80), (.call (.v (.fn (.func 27) [] [])) [(.t 78), (.t 79)]), (some (76, true))⟩, ⟨(some 81), (.mov (.t 6)), (some (76, true))⟩, ⟨(some 82), (.call (.v (.fn (.func 29) [] [])) [(.t 81)]), (some (76, true))⟩, ⟨(some 83), (.mov (.t 8)), (some (76, true))⟩, ⟨(some 84), (.call (.v (.fn (.func 28) [] [])) [(.t 82), (.t 83)]), (some (76, true))⟩, ⟨(some 85), (.call (.v (.fn (.func 16) [] [])) [(.t 80), (.t 84)]), (some (76, true))⟩, ⟨(some 86), (.pick (.t 76) (.t 85) (.v (.bool false))), none⟩, ⟨(some 87), (.mov (.t 86)), none⟩, ⟨(some 88), (.call (.v (.fn (.func 11) [] [])) []), (some (87, true))⟩, ⟨(some 89), (.pick (.t 87) (.t 88) (.v (.bool false))), none⟩, ⟨(some 4), (.mov (.t 89)), none⟩]) .ret))))))))), 90, [(.tmp 4)]⟩
theorem c6_ok : compileF Tryz.prog [] 6 = some c6 := by kernel_rfl
end Go.Ab
namespace Go.Ab
open Go Go.Proofs Go.Sort
set_option maxRecDepth 20000
structure RW where
  i : Nat
  k : Nat
  w : List Dv
structure RW.ok (n : Nat) (s : RW) : Prop where
  hi : s.i ≤ n
  hk : s.k ≤ 1 + 20 * s.i
  hT : ∃ m, Tbl puS uS s.i m s.w
theorem Tbl.call {PU U : List Txt} {B : Nat} {m : SMap Own} {w : List Dv} (hF : Few12 PU U) (h : Tbl PU U B m w) (c : Cal) (hc : CalOk PU U c) : ∃ m', Tbl PU U (B + 1) m' (calW w c) := by
  unfold calW
  cases c.drop with
  | true => exact ⟨_, by simpa using h.drop c.p⟩
  | false =>
    simp only [Bool.false_eq_true, if_false]
    unfold setW
    by_cases hq : okSet c.p c.node c.links c.prio = true ∧ clashW w c.p c.node = false
    · rw [if_pos hq]
      have hok := hq.1
      unfold okSet at hok
      simp only [Bool.and_eq_true, decide_eq_true_eq] at hok
      obtain ⟨⟨⟨⟨b1, _⟩, _⟩, _⟩, b5⟩ := hok
      exact ⟨_, h.put hF (hc.p b1) (fun s hs => hc.l s hs (List.all_eq_true.1 b5 s hs)) hc.ln hq.2⟩
    · rw [if_neg hq]
      exact ⟨_, h.le⟩
set_option maxHeartbeats 4000000 in
/-- The claims, in a slice of our own. -/
theorem rClaimsW_c (w : List Dv) (hw : w.length ≤ 12) (hB : ∀ d ∈ w, d.2.links.length ≤ 1000) : ACallsR Tryz.prog 25 [.imm (w.map dvRow)] [] (fun v G => v = .own 0 (clm w).length ∧ G = [.reg 48 4 ((clm w).map clRow)]) := by
  have hcl := fun k => dvRows_cl k w
  have hcc := closedLL_clRows
  have hdr : ∀ d : Dv, dvRow d = [.str d.1, .str d.2.node, .imm (d.2.links.map sRow), .int .i64 d.2.prio] := fun _ => rfl
  refine acalls_W _ c25_ok ?_
  unfold c25
  simp +decide -dsimp -implicitDefEqProofs [go_sem]
  refine loop_of (S := Nat) (fun i => ⟨tmps 50 [(0, .imm (w.map dvRow)), (3, .own 0 (clm (w.take i)).length), (4, .int .i64 i)], [.reg 48 4 ((clm (w.take i)).map clRow)]⟩) (fun i => w.length - i) (fun i => i ≤ w.length) 0 (by simp) ((Wk.nilT 3 48 4 rfl (by simp)).trans (cut_of (by simp) ?_)) ?_
  · simp +decide -dsimp -implicitDefEqProofs [go_sem, hcl, clm]
  intro i hi
  by_cases h : i < w.length
  · have wi : IntKind.i64.wrap ((i : Int) + 1) = i + 1 := w64 (by omega) (by omega)
    have hBd := hB _ (List.getElem_mem h)
    have htk := clm_take h
    have hol := clm_len (w := w.take i) (B := 1000) fun x hx => hB x (List.mem_of_mem_take hx)
    rw [List.length_take] at hol
    have hol2 : (clm (w.take i)).length ≤ 12000 := by
      have : min i w.length * 1000 ≤ 12 * 1000 := Nat.mul_le_mul_right _ (by omega)
      omega
    generalize clm (w.take i) = out at htk hol2
    simp +decide -dsimp -implicitDefEqProofs [go_sem, h]
    refine loop_of (S := Nat) (fun j => ⟨tmps 50 [(0, .imm (w.map dvRow)), (3, .own 0 (out ++ (clOf w[i]).take j).length), (4, .int .i64 i), (5, .int .i64 j)], [.reg 48 4 ((out ++ (clOf w[i]).take j).map clRow)]⟩) (fun j => w[i].2.links.length - j) (fun j => j ≤ w[i].2.links.length) 0 (by simp) (cut_of (by simp) ?_) ?_
    · simp +decide -dsimp -implicitDefEqProofs [go_sem, hcl, hcc]
    intro j hj
    have hcl2 : (clOf w[i]).length = w[i].2.links.length := by simp [clOf]
    by_cases h2 : j < w[i].2.links.length
    · have wj : IntKind.i64.wrap ((j : Int) + 1) = j + 1 := w64 (by omega) (by omega)
      have hca : (clOf w[i]).take (j + 1) = (clOf w[i]).take j ++ [⟨w[i].2.links[j], w[i].1, w[i].2.node, w[i].2.prio⟩] := by
        rw [List.take_succ_eq_append_getElem (by omega)]; simp [clOf]
      have hol3 : (out ++ (clOf w[i]).take j).length ≤ 13000 := by rw [List.length_append, List.length_take]; omega
      have ha : (out ++ (clOf w[i]).take j).map clRow ++ [[.str w[i].2.links[j], .str w[i].1, .str w[i].2.node, .int .i64 w[i].2.prio]] = (out ++ (clOf w[i]).take (j + 1)).map clRow := by rw [hca, ← List.append_assoc, List.map_append (l₂ := [_])]; rfl
      have hl4 : (out ++ (clOf w[i]).take (j + 1)).length = (out ++ (clOf w[i]).take j).length + 1 := by rw [hca]; simp; omega
      generalize out ++ (clOf w[i]).take j = o1 at ha hol3 hl4
      obtain ⟨o2, ho2⟩ : ∃ o2, o2 = out ++ (clOf w[i]).take (j + 1) := ⟨_, rfl⟩
      rw [← ho2] at ha hl4
      simp +decide -dsimp -implicitDefEqProofs [go_sem, h, hdr, h2, maxLen, wj]
      refine ⟨⟨by omega, by omega⟩, ?_⟩
      rw [ha]
      refine next_of (j + 1) (by show j + 1 ≤ w[i].2.links.length; omega) (by show w[i].2.links.length - (j + 1) < w[i].2.links.length - j; omega) (cut_of (by simp) ?_)
      rw [← ho2]
      simp +decide -dsimp -implicitDefEqProofs [go_sem, hcl, hcc, hl4]
    · have e2 : j = w[i].2.links.length := by omega
      subst e2
      rw [List.take_of_length_le (by rw [hcl2]; exact Nat.le_refl _), ← htk]
      simp +decide -dsimp -implicitDefEqProofs [go_sem, h, hdr, wi]
      refine next_of (i + 1) (by show i + 1 ≤ w.length; omega) (by show w.length - (i + 1) < w.length - i; omega) (cut_of (by simp) ?_)
      simp +decide -dsimp -implicitDefEqProofs [go_sem, hcl, hcc]
  · have e : i = w.length := by omega
    subst e
    rw [List.take_length]
    simp +decide -dsimp -implicitDefEqProofs [go_sem]
    refine endW_of _ _ (.refl _ _) ?_
    simp +decide -dsimp -implicitDefEqProofs [go_sem, packR]
theorem renLL_dvRows (is : List Nat) (w : List Dv) : renLL is (w.map dvRow) = w.map dvRow := by
  induction w with
  | nil => rfl
  | cons x r ih =>
    have := renLL_sRows is x.2.links
    unfold sRow at this
    simp [renLL, ih, dvRow, renL, ren, this]
def swapC (C : List Cl) (h : 1 < C.length) : List Cl := (C.set 0 C[C.length - 1]).set (C.length - 1) C[0]
theorem swap_perm (C : List Cl) (h : 1 < C.length) : (swapC C h).Perm C := List.set_set_perm (by omega) (by omega)
/-- What both ways of resolving want. -/
structure Rok (N : List Txt) (C : List Cl) : Prop where
  k : okCl placeB C
  n : N.length ≤ 1000
  nl : ∀ x ∈ N, x.length ≤ 140737488351232
  c : C.length ≤ 100000
  u : ∀ c ∈ C, c.link ∈ uS
def rsv (N : List Txt) (C : List Cl) : List Lk := refR ltP (opn N C) (opn N C)
theorem Rok.len {N : List Txt} {C : List Cl} (h : Rok N C) : (rsv N C).length ≤ 12 := by
  have hr := refR_ok pord (h.k.sub (O' := opn N C) List.filter_sublist)
  have h1 : ((rsv N C).map (·.name)).Nodup := by
    unfold List.Nodup
    rw [List.pairwise_map]
    exact hr.asc.imp (S := fun a b => a.name ≠ b.name) fun {a b} h e => by rw [e] at h; exact List.lt_irrefl _ h
  have h2 := nodup_sub h1 (U := uS) fun x hx => by
    obtain ⟨y, hy, rfl⟩ := List.mem_map.1 hx
    obtain ⟨c, hc, rfl, _⟩ := (hr.mem y).1 hy
    exact h.u c (List.mem_filter.1 hc.1).1
  rw [List.length_map] at h2
  have : uS.length = 9 := rfl
  omega
theorem Rok.res {N : List Txt} {C : List Cl} (h : Rok N C) : ACalls Tryz.prog 27 [.imm (N.map sRow), .imm (C.map clRow)] [] (.imm ((rsv N C).map lkRow)) [] :=
  Resolve_c N C h.k (by have := h.n; omega) h.nl h.c (fun c hc => by have := uS_len _ (h.u c hc); omega) h.len
theorem Rok.ref {N : List Txt} {C : List Cl} (h : Rok N C) : ACalls Tryz.prog 28 [.imm (N.map sRow), .imm (C.map clRow)] [] (.imm ((rsv N C).map lkRow)) [] :=
  rResolve_c N C (by have := h.n; omega) h.c h.nl (fun c hc => by have := uS_len _ (h.u c hc); omega) h.k.1
structure NS where
  j : Nat
  k : Nat
  N : List Txt
structure NS.ok (k0 n : Nat) (s : NS) : Prop where
  hj : s.j ≤ n
  hk : s.k ≤ k0 + s.j
  n : s.N.length ≤ 40 + s.j
  nl : ∀ x ∈ s.N, x.length ≤ 140737488351232
def q4 : List Txt := [[100, 47, 120], [100], [122], [113]]
set_option maxHeartbeats 16000000 in
theorem LinkResolves_c (l : List Int) (N : List Txt) (_hN : N.length ≤ maxLen) (hb : ∀ x ∈ N, x.length ≤ 140737488351232) : ACalls Tryz.prog 6 [tapeVs l, .imm (N.map sRow)] [] (.bool true) [] := by
  have b0 := fold_bd (tapeV l 0) 7 (by omega)
  obtain ⟨n, hn⟩ : ∃ n : Nat, fold (tapeV l 0) 7 = n := ⟨_, (Int.toNat_of_nonneg b0.1).symm⟩
  have c0 := Next_c l 0 7 (by omega) (by omega)
  rw [hn] at b0 c0
  have hcl := fun k (w : List Dv) => dvRows_cl k w
  have hcc := closedLL_clRows
  have hlc := closedLL_lkRows
  refine acalls_F c6_ok rfl ?_
  unfold c6 tapeVs
  by_cases h40 : 40 < N.length
  · have h40' : (40 : Int) < N.length := by omega
    simp +decide -dsimp -implicitDefEqProofs [go_sem, h40']
    refine callE_pure known_c rfl rfl ?_
    simp +decide -dsimp -implicitDefEqProofs [go_sem]
  have h40' : ¬ (40 : Int) < N.length := by omega
  simp +decide -dsimp -implicitDefEqProofs [go_sem, h40']
  rw [tape0]
  refine callE_frame [0] c0 rfl rfl (by simp) (by simp +decide -dsimp -implicitDefEqProofs [go_sem]) (by simp +decide -dsimp -implicitDefEqProofs [go_sem, tapeO_ren]) ?_
  simp +decide -dsimp -implicitDefEqProofs [go_sem, tapeO_ren]
  refine loop_of (S := RW) (fun s => ⟨tmps 90 [(1, .imm (N.map sRow)), (5, .ptr 0 0), (6, .imm (s.w.map dvRow)), (7, .int .i64 ((n - s.i : Nat) : Int))], [tapeO l s.k]⟩) (fun s => n - s.i) (RW.ok n) ⟨0, 1, []⟩ ⟨by simp, by simp, [], .nil⟩ ((Wk.nilI 6 rfl).trans (cut_of (by simp) ?_)) ?_
  · simp +decide -dsimp -implicitDefEqProofs [go_sem, tapeO]
  rintro ⟨i, k, w⟩ ⟨hi, hk, m, hT⟩
  simp only at hi hk hT
  by_cases h : i < n
  · have h' : 0 < n - i := by omega
    have wi : IntKind.i64.wrap (((n - i : Nat) : Int) - 1) = ((n - (i + 1) : Nat) : Int) := by rw [w64 (by omega) (by omega)]; omega
    simp +decide -dsimp -implicitDefEqProofs [go_sem, h']
    refine callE_frameR [0] (some_c l k (by omega)) rfl (fun v G ⟨_, _, _, hG, _⟩ => by rw [hG]; rfl) (by simp) (by simp +decide -dsimp -implicitDefEqProofs [go_sem]) (by simp +decide -dsimp -implicitDefEqProofs [go_sem, tapeO_ren]) ?_
    rintro _ _ ⟨c, k', rfl, rfl, hc, hk'⟩
    have cm := model_c few_s hT c hc
    have hcr : ∀ is, renL is (calRow c) = calRow c := fun is => by simp [calRow, renL, ren, renLL_sRows]
    have hccl : ∀ j, closedL j (calRow c) = true := fun j => by simp [calRow, closedL, closed, closedLL_sRows]
    simp +decide -dsimp -implicitDefEqProofs [go_sem, tapeO_ren, hcr]
    refine callE_pure cm (by simp +decide -dsimp -implicitDefEqProofs [go_sem, hcl, hccl]) (by simp +decide -dsimp -implicitDefEqProofs [go_sem, hcl]) ?_
    simp +decide -dsimp -implicitDefEqProofs [go_sem, wi]
    refine next_of ⟨i + 1, k', calW w c⟩ ⟨by show i + 1 ≤ n; omega, by show k' ≤ 1 + 20 * (i + 1); omega, hT.call few_s c hc⟩ (by show n - (i + 1) < n - i; omega) (cut_of (by simp) ?_)
    simp +decide -dsimp -implicitDefEqProofs [go_sem, tapeO, hcl]
  have e : i = n := by omega
  subst e
  have hw := hT.wl few_s
  have hll := hT.ll few_s
  have cC := rClaimsW_c w hw (fun d hd => Nat.le_trans (hll d hd) (by decide))
  have cN := rNodes_c w (by omega)
  have hok := clm_ok pord hT.t.toTabW
  have hcu : ∀ c ∈ clm w, c.link ∈ uS := fun c hc => by
    obtain ⟨d, hd, h3, _⟩ := clm_mem.1 hc
    exact hT.u d hd _ h3
  have hcn := clm_len (w := w) (B := 12) hll
  have hRW : ∀ C' : List Cl, C'.Perm (clm w) → Rok (nodesW w) C' := fun C' hp => ⟨hok.perm hp, Nat.le_trans (nodesW_len (w := w)) (by omega), fun x hx => by
    obtain ⟨d, hd, rfl⟩ := nodesW_mem.1 hx
    have := hT.nl d hd; omega, by rw [hp.length_eq]; omega, fun c hc => hcu c (hp.mem_iff.1 hc)⟩
  generalize clm w = C at cC hok hcu hcn hRW
  simp +decide -dsimp -implicitDefEqProofs [go_sem]
  refine callE_grow [] 1 cC rfl (fun v G h => by rw [h.2]; rfl) (by show (List.range' 1 1).Nodup; decide) (by simp +decide -dsimp -implicitDefEqProofs [go_sem, renLL_dvRows]) (by simp) ?_
  rintro _ _ ⟨rfl, rfl⟩
  have hccr := renLL_clRows
  simp +decide -dsimp -implicitDefEqProofs [go_sem, hccr, show List.range' 1 1 = [1] from rfl]
  have o2 := Next_c l k 2 (by omega) (by omega)
  generalize fold (tapeV l k) 2 = v2 at o2
  have wc : IntKind.i64.wrap ((C.length : Int) - 1) = ((C.length - 1 : Nat) : Int) ∨ C.length = 0 := by
    by_cases h0 : C.length = 0
    · exact .inr h0
    · refine .inl ?_
      rw [w64 (by omega) (by omega)]; omega
  by_cases hn1 : 1 < C.length
  rotate_left
  have hn1' : ¬ (1 : Int) < C.length := by omega
  simp +decide -dsimp -implicitDefEqProofs [go_sem, hn1']
  obtain ⟨C1, hC1⟩ : ∃ C1, C1 = C := ⟨_, rfl⟩
  have hp : C1.Perm C := by rw [hC1]
  obtain ⟨k1, hk1⟩ : ∃ k1, k1 = k := ⟨_, rfl⟩
  rw [← hk1, show C.map clRow = C1.map clRow by rw [hC1]]
  have hk2 : k1 ≤ k + 1 := by omega
  have hlc1 := hp.length_eq
  clear hC1 hk1
  rotate_left
  have hn1' : (1 : Int) < C.length := by omega
  have wc' : IntKind.i64.wrap ((C.length : Int) - 1) = ((C.length - 1 : Nat) : Int) := wc.resolve_right (by omega)
  have q1 : C.length - 1 < C.length := by omega
  have q0 : 0 < C.length := by omega
  simp +decide -dsimp -implicitDefEqProofs [go_sem, hn1']
  refine callE_frame [0] o2 rfl rfl (by simp) (by simp +decide -dsimp -implicitDefEqProofs [go_sem]) (by simp +decide -dsimp -implicitDefEqProofs [go_sem, tapeO_ren]) ?_
  by_cases hv : v2 = 0
  simp +decide -dsimp -implicitDefEqProofs [go_sem, tapeO_ren, hv, wc', q1, q0, hn1']
  have hrw : ∀ x y : Cl, List.take 4 (clRow x) ++ List.drop (min 4 (clRow x).length) (clRow y) = clRow x := fun _ _ => rfl
  have hlast : ((C.map clRow).set 0 (clRow C[C.length - 1]))[C.length - 1]'(by simp; omega) = clRow C[C.length - 1] := by
    rw [List.getElem_set_ne (by omega)]; simp
  have hsw : ((C.map clRow).set 0 (clRow C[C.length - 1])).set (C.length - 1) (clRow C[0]) = (swapC C hn1).map clRow := by
    simp [swapC, List.map_set]
  have hp := swap_perm C hn1
  simp only [hrw, hlast, hsw]
  refine ⟨Nat.le_refl 4, Nat.le_refl 4, rfl, Nat.le_refl 4, rfl, Nat.le_refl 4, ?_⟩
  generalize swapC C hn1 = C1 at hp
  obtain ⟨k1, hk1⟩ : ∃ k1, k1 = k + 1 := ⟨_, rfl⟩
  rw [← hk1]
  have hk2 : k1 ≤ k + 1 := by omega
  have hlc1 := hp.length_eq
  clear hk1
  rotate_left
  simp +decide -dsimp -implicitDefEqProofs [go_sem, tapeO_ren, hv, hn1']
  obtain ⟨C1, hC1⟩ : ∃ C1, C1 = C := ⟨_, rfl⟩
  have hp : C1.Perm C := by rw [hC1]
  obtain ⟨k1, hk1⟩ : ∃ k1, k1 = k + 1 := ⟨_, rfl⟩
  rw [← hk1, show C.map clRow = C1.map clRow by rw [hC1]]
  have hk2 : k1 ≤ k + 1 := by omega
  have hlc1 := hp.length_eq
  clear hC1 hk1
  all_goals
    have o3 := Next_c l k1 3 (by omega) (by omega)
    have b3 := fold_bd (tapeV l k1) 3 (by omega)
    obtain ⟨n3, hn3⟩ : ∃ n3 : Nat, fold (tapeV l k1) 3 = n3 := ⟨_, (Int.toNat_of_nonneg b3.1).symm⟩
    rw [hn3] at o3 b3
    refine callE_frame [0] o3 rfl rfl (by simp) (by simp +decide -dsimp -implicitDefEqProofs [go_sem]) (by simp +decide -dsimp -implicitDefEqProofs [go_sem, tapeO_ren]) ?_
    simp +decide -dsimp -implicitDefEqProofs [go_sem, tapeO_ren]
    refine loop_of (S := NS) (fun s => ⟨tmps 90 [(1, .imm (s.N.map sRow)), (5, .ptr 0 0), (6, .imm (w.map dvRow)), (8, .imm (C1.map clRow)), (10, .int .i64 ((n3 - s.j : Nat) : Int))], [tapeO l s.k]⟩) (fun s => n3 - s.j) (NS.ok (k1 + 1) n3) ⟨0, k1 + 1, N⟩ ⟨by simp, by simp, by show N.length ≤ 40 + 0; omega, hb⟩ ((Wk.frz 8 1 rfl (by show some (AV.own 1 C.length) = _; rw [List.length_map, hlc1])).trans (cut_of (by simp) ?_)) ?_
    · simp +decide -dsimp -implicitDefEqProofs [go_sem, tapeO, hcl, hcc]
    rintro ⟨j, k2, N2⟩ ⟨hj, hk3, hn4, hn5⟩
    simp only at hj hk3 hn4 hn5
    by_cases h5 : j < n3
    · have h5' : 0 < n3 - j := by omega
      have wj : IntKind.i64.wrap (((n3 - j : Nat) : Int) - 1) = ((n3 - (j + 1) : Nat) : Int) := by rw [w64 (by omega) (by omega)]; omega
      have oA := One_c l k2 q4 (by omega) (by decide) (by decide)
      have mA := oneS_mem (ss := q4) (tapeV l k2) (by decide)
      generalize oneS q4 (tapeV l k2) = ask at oA mA
      have ha : ask.length ≤ 10 := by
        have : ∀ x ∈ q4, x.length ≤ 10 := by decide
        exact this _ mA
      have hqe : q4.map sRow = [[.str [100, 47, 120]], [.str [100]], [.str [122]], [.str [113]]] := rfl
      unfold strsV at oA
      rw [hqe] at oA
      simp +decide -dsimp -implicitDefEqProofs [go_sem, h5', maxLen]
      refine ⟨⟨by omega, by omega⟩, ?_⟩
      refine callE_frame [0] oA rfl rfl (by simp) (by simp [renLL, renL, ren]) (by simp +decide -dsimp -implicitDefEqProofs [go_sem, tapeO_ren]) ?_
      simp +decide -dsimp -implicitDefEqProofs [go_sem, tapeO_ren, wj, maxLen]
      refine ⟨⟨by omega, by omega⟩, ?_⟩
      have hre : N2.map sRow ++ [[.str ask]] = (N2 ++ [ask]).map sRow := by simp [sRow]
      have hle : N2.length + 1 = ((N2 ++ [ask]).map sRow).length := by simp
      rw [hre, hle]
      refine next_of ⟨j + 1, k2 + 1, N2 ++ [ask]⟩ ⟨by show j + 1 ≤ n3; omega, by show k2 + 1 ≤ k1 + 1 + (j + 1); omega, by show (N2 ++ [ask]).length ≤ 40 + (j + 1); simp; omega, fun x hx => ?_⟩ (by show n3 - (j + 1) < n3 - j; omega) ((Wk.frz 1 1 rfl rfl).trans (cut_of (by simp) ?_))
      · rcases List.mem_append.1 hx with hx | hx
        · exact hn5 x hx
        · rw [List.mem_singleton.1 hx]; omega
      simp +decide -dsimp -implicitDefEqProofs [go_sem, tapeO, hcl, hcc, sRow, closedL, closed]
    · have e5 : j = n3 := by omega
      subst e5
      have rW := hRW C1 hp
      have rN : Rok N2 C1 := ⟨rW.k, by omega, hn5, rW.c, rW.u⟩
      have s1 := sameLinks_c (rsv N2 C1) (by have := rN.len; omega)
      have s2 := sameLinks_c (rsv (nodesW w) C1) (by have := rW.len; omega)
      have p1 := rN.res
      have p2 := rN.ref
      have p3 := rW.res
      have p4 := rW.ref
      simp +decide -dsimp -implicitDefEqProofs [go_sem]
      refine callE_pure p1 (by simp +decide -dsimp -implicitDefEqProofs [go_sem, hcc]) (by simp +decide -dsimp -implicitDefEqProofs [go_sem, hlc]) ?_
      simp +decide -dsimp -implicitDefEqProofs [go_sem]
      refine callE_pure p2 (by simp +decide -dsimp -implicitDefEqProofs [go_sem, hcc]) (by simp +decide -dsimp -implicitDefEqProofs [go_sem, hlc]) ?_
      simp +decide -dsimp -implicitDefEqProofs [go_sem]
      refine callE_pure s1 (by simp +decide -dsimp -implicitDefEqProofs [go_sem, hlc]) rfl ?_
      simp +decide -dsimp -implicitDefEqProofs [go_sem]
      refine callE_pure cN (by simp +decide -dsimp -implicitDefEqProofs [go_sem, hcl]) (by simp +decide -dsimp -implicitDefEqProofs [go_sem]) ?_
      simp +decide -dsimp -implicitDefEqProofs [go_sem]
      refine callE_pure p3 (by simp +decide -dsimp -implicitDefEqProofs [go_sem, hcc]) (by simp +decide -dsimp -implicitDefEqProofs [go_sem, hlc]) ?_
      simp +decide -dsimp -implicitDefEqProofs [go_sem]
      refine callE_pure cN (by simp +decide -dsimp -implicitDefEqProofs [go_sem, hcl]) (by simp +decide -dsimp -implicitDefEqProofs [go_sem]) ?_
      simp +decide -dsimp -implicitDefEqProofs [go_sem]
      refine callE_pure p4 (by simp +decide -dsimp -implicitDefEqProofs [go_sem, hcc]) (by simp +decide -dsimp -implicitDefEqProofs [go_sem, hlc]) ?_
      simp +decide -dsimp -implicitDefEqProofs [go_sem]
      refine callE_pure s2 (by simp +decide -dsimp -implicitDefEqProofs [go_sem, hlc]) rfl ?_
      simp +decide -dsimp -implicitDefEqProofs [go_sem]
      refine callE_pure known_c rfl rfl ?_
      simp +decide -dsimp -implicitDefEqProofs [go_sem]
end Go.Ab
