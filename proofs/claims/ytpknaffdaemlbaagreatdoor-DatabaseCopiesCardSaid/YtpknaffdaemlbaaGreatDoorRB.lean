/- A layer of abstract values over the model, and what is proved with it: part RB. -/
import Derived.Shelf.Small.Strs
import Derived.Test.YtpknaffdaemlbaaGreatDoorProg
import Derived.Test.YtpknaffdaemlbaaGreatDoorRA
import Derived.Test.YtpknaffdaemlbaaGreatDoorAA
namespace Go.Proofs
open Go.Shelf Go.RowKit Go.Lib
def Tryz.lays106_ren : Go.Shelf.Ren := ⟨fun | 106 => 192 | 213 => 215 | 265 => 236 | n => n, fun | 9 => 9 | 3 => 3 | n => n, fun | n => n⟩
theorem Tryz.lays106 : Go.Proofs.Lays.n106 Tryz.prog Tryz.lays106_ren := {
  mixed := by kernel_rfl
  f106 := Tryz.func192.trans (congrArg some (by kernel_rfl))
  f213 := Tryz.func215.trans (congrArg some (by kernel_rfl))
  f265 := Tryz.func236.trans (congrArg some (by kernel_rfl))
  t3 := Tryz.underlying3
  a3 := Tryz.isAgg3
  z3 := Tryz.sizeOf3
  v3 := Tryz.zeroValue3
  t9 := Tryz.underlying9
  a9 := Tryz.isAgg9
  z9 := Tryz.sizeOf9
  v9 := Tryz.zeroValue9 }
theorem Tryz.strings_Compare (a b : ByteArray) (w : World) :
    Calls Tryz.prog 192 #[.string a, .string b] w fun e w' => e = .returned (.int .i64 (Lib.compareBytes a.data.toList b.data.toList)) ∧ w' = w := Any.strings_Compare Tryz.lays106 a b w
end Go.Proofs
namespace Go.Ab
open Go Go.Proofs Go.Sort
theorem cmpB_eq : ∀ (a b : List UInt8), Lib.compareBytes a b = cmpS a b
  | [], [] => by simp [Lib.compareBytes, cmpS]
  | [], _ :: _ => by simp [Lib.compareBytes, cmpS]
  | _ :: _, [] => by simp [Lib.compareBytes, cmpS]
  | a :: r, b :: s => by
    rw [Lib.compareBytes, cmpB_eq r s]
    unfold cmpS
    simp only [List.cons_lt_cons_iff]
    by_cases h : a < b
    · simp [h]
    · by_cases h2 : b < a
      · have h3 : a ≠ b := fun e => by subst e; exact h h2
        simp [h, h2, h3]
      · have h3 : a = b := UInt8.le_antisymm (UInt8.not_lt.1 h2) (UInt8.not_lt.1 h)
        subst h3
        simp [h]
theorem sCompare_c (a b : List UInt8) : ACalls Tryz.prog 192 [.str a, .str b] [] (.int .i64 (cmpS a b)) [] := by
  refine .of_below (by kernel_rfl) fun cx vs hv hg => ?_
  simp only [Vals, Val] at hv
  obtain ⟨v, vs', rfl, rfl, v2, vs2, rfl, rfl, rfl⟩ := hv
  refine (Tryz.strings_Compare _ _ cx.w).mono fun e w' hq => ?_
  obtain ⟨rfl, rfl⟩ := hq
  exact ⟨_, rfl, Go.RowKit.Below.refl _ _, fun c' => by simp only [Val]; rw [cmpB_eq]⟩
set_option maxRecDepth 20000 in
theorem rCompare_c (l m : List (List UInt8)) (hl : l.length < 1000000) (_hm : m.length < 1000000) : ACalls Tryz.prog 157 [.imm (l.map sRow), .imm (m.map sRow)] [] (.int .i64 (cmpL l m)) [] := by
  refine acalls_F c157_ok rfl ?_
  unfold c157
  simp +decide -dsimp -implicitDefEqProofs [go_sem]
  refine loop_of (S := Nat) (fun i => ⟨tmps 48 [(0, .imm (l.map sRow)), (1, .imm (m.map sRow)), (5, .int .i64 i)], []⟩) (fun i => l.length - i)
    (fun i => i ≤ l.length ∧ i ≤ m.length ∧ cmpL l m = cmpL (l.drop i) (m.drop i)) 0 (by simp) (cut_of (by simp) ?_) ?_
  · simp +decide -dsimp -implicitDefEqProofs [go_sem]
  rintro i ⟨hi, hj, hc⟩
  by_cases h : i < l.length
  · have hdl : l.drop i = l[i] :: l.drop (i + 1) := List.drop_eq_getElem_cons h
    have w : IntKind.i64.wrap ((i : Int) + 1) = i + 1 := w64 (by omega) (by omega)
    by_cases h2 : i < m.length
    · have hdm : m.drop i = m[i] :: m.drop (i + 1) := List.drop_eq_getElem_cons h2
      rw [hdl, hdm, cmpL] at hc
      have cs := sCompare_c l[i] m[i]
      by_cases he : l[i] = m[i]
      · rw [if_pos ((cmpS_eq _ _).2 he)] at hc
        simp +decide -dsimp -implicitDefEqProofs [go_sem, h, h2, he, w]
        refine next_of (i + 1) ⟨by omega, by omega, hc⟩ (by show l.length - (i + 1) < l.length - i; omega) (cut_of (by simp) ?_)
        simp +decide -dsimp -implicitDefEqProofs [go_sem]
      · rw [if_neg (fun e => he ((cmpS_eq _ _).1 e))] at hc
        simp +decide -dsimp -implicitDefEqProofs [go_sem, h, h2, he]
        refine callDE_pure cs rfl rfl ?_
        simp +decide -dsimp -implicitDefEqProofs [go_sem, hc]
    · have h3 : m.length ≤ i := by omega
      have hdm : m.drop i = [] := List.drop_eq_nil_of_le h3
      rw [hdl, hdm, cmpL] at hc
      have e1 : ¬ l.length < m.length := by omega
      have e2 : m.length < l.length := by omega
      simp +decide -dsimp -implicitDefEqProofs [go_sem, h, h2, hc, e1, e2]
  · have e : i = l.length := by omega
    rw [List.drop_eq_nil_of_le (show l.length ≤ i by omega)] at hc
    by_cases h2 : l.length < m.length
    · have hdm : m.drop i = m[l.length] :: m.drop (l.length + 1) := by rw [e]; exact List.drop_eq_getElem_cons h2
      rw [hdm, cmpL] at hc
      simp +decide -dsimp -implicitDefEqProofs [go_sem, h, h2, hc]
    · have hdm : m.drop i = [] := List.drop_eq_nil_of_le (by omega)
      rw [hdm, cmpL] at hc
      have e2 : ¬ m.length < l.length := by omega
      simp +decide -dsimp -implicitDefEqProofs [go_sem, h, h2, hc, e2]
theorem place_split {p : List UInt8} (h : placeB p = true) : splitL p 47 = [] :: compsP p := by
  obtain ⟨h1, _⟩ := comps_some h
  cases p with
  | nil => cases h1
  | cons c r =>
    simp only [pathL] at h1
    split at h1
    · rename_i h2
      obtain ⟨rfl, _⟩ := h2
      simp only [Option.some.injEq] at h1
      rw [splitL_eq] at h1 ⊢
      rw [← h1]
      simp [splitC]
    · cases h1
theorem Order_c (a b : List UInt8) (ha : placeB a = true) (hb : placeB b = true) : ACalls Tryz.prog 119 [.str a, .str b] [] (.int .i64 (cmpP a b)) [] := by
  obtain ⟨ea, la⟩ := comps_some ha
  obtain ⟨eb, lb⟩ := comps_some hb
  have ca := Split_c a 47 (by have := path_small ha; omega)
  have cb := Split_c b 47 (by have := path_small hb; omega)
  rw [place_split ha] at ca
  rw [place_split hb] at cb
  have cc := rCompare_c ([] :: compsP a) ([] :: compsP b) (by simp; omega) (by simp; omega)
  have e : cmpL ([] :: compsP a) ([] :: compsP b) = cmpP a b := by
    rw [cmpL, if_pos ((cmpS_eq _ _).2 rfl)]; rfl
  rw [e] at cc
  refine acalls_F c119_ok rfl ?_
  unfold c119
  simp +decide -dsimp -implicitDefEqProofs [go_sem]
  refine callE_pure ca rfl (by simp +decide -dsimp -implicitDefEqProofs [go_sem]) ?_
  simp +decide -dsimp -implicitDefEqProofs [go_sem]
  refine callE_pure cb rfl (by simp +decide -dsimp -implicitDefEqProofs [go_sem]) ?_
  simp +decide -dsimp -implicitDefEqProofs [go_sem]
  refine callE_pure cc (by simp +decide -dsimp -implicitDefEqProofs [go_sem]) rfl ?_
  simp +decide -dsimp -implicitDefEqProofs [go_sem]
end Go.Ab
namespace Go.Ab
open Go Go.Proofs Go.Sort
structure RecsE (E : List Ent) (l : List Rcd) : Prop where
  mem : ∀ r, r ∈ l ↔ soundB r = true ∧ (entL r.path, encT r) ∈ E
  ds : l.Pairwise fun a b => a.path ≠ b.path
  len : l.length ≤ E.length
theorem RecsE.nil : RecsE [] [] := ⟨by simp, .nil, Nat.le_refl _⟩
theorem RecsE.step {E : List Ent} {l : List Rcd} {n t : List UInt8} {r : Rcd} {b : Bool} (h : RecsE E l) (hn : ∀ e ∈ E, e.1 ≠ n) (hr : readT t n r b) : RecsE (E ++ [(n, t)]) (if b = true then l ++ [r] else l) := by
  rcases hr with ⟨x, hx, hxe, he, rfl, rfl⟩ | ⟨hno, rfl, rfl⟩
  · rw [if_pos rfl]
    refine ⟨fun s => ?_, ?_, by simp; exact h.len⟩
    · rw [List.mem_append, h.mem, List.mem_append]
      simp only [List.mem_singleton, Prod.mk.injEq]
      constructor
      · rintro (⟨h1, h2⟩ | rfl)
        · exact ⟨h1, .inl h2⟩
        · exact ⟨hx, .inr ⟨he, hxe⟩⟩
      · rintro ⟨h1, h2 | ⟨h2, h3⟩⟩
        · exact .inl ⟨h1, h2⟩
        · exact .inr (enc_inj h1 hx (h3.trans hxe.symm))
    · rw [List.pairwise_append]
      refine ⟨h.ds, by simp, fun a ha b hb e => ?_⟩
      simp only [List.mem_singleton] at hb
      subst hb
      have := ((h.mem a).1 ha).2
      exact hn _ this (by show entL a.path = n; rw [e, he])
  · rw [if_neg (by simp)]
    refine ⟨fun s => ?_, h.ds, by rw [List.length_append]; exact Nat.le_add_right_of_le h.len⟩
    rw [h.mem, List.mem_append]
    simp only [List.mem_singleton, Prod.mk.injEq]
    constructor
    · rintro ⟨h1, h2⟩
      exact ⟨h1, .inl h2⟩
    · rintro ⟨h1, h2 | ⟨h2, h3⟩⟩
      · exact ⟨h1, h2⟩
      · exact (hno s h1 h3 h2).elim
theorem asc_take {E : List Ent} (h : ascE E) {i : Nat} (hi : i < E.length) : ∀ e ∈ E.take i, e.1 ≠ E[i].1 := fun e he hne => by
  obtain ⟨j, hj, rfl⟩ := List.mem_iff_getElem.1 he
  rw [List.length_take] at hj
  rw [List.getElem_take] at hne
  have := (List.pairwise_iff_getElem.1 h) j i (by omega) hi (by omega)
  rw [hne] at this
  exact List.lt_irrefl _ this
theorem ldK_path (r : Rcd) (K : AV → Prop) : ldK none (rRow r) K = K (.str r.path) := rfl
set_option maxRecDepth 20000 in
set_option maxHeartbeats 4000000 in
theorem rAll_c (dm : TMap) (pend : List Wr) (seen : TMap) {n : Nat} (ho : oneS' dm) (hn : dm.length + pend.length ≤ 100000) (hF : Fine seen n) (hse : ∀ k, getS k (foldW dm pend) = getS k seen) (l' : List Rcd) (hA : AllOf seen l') :
    ACalls Tryz.prog 74 [refV dm pend] [] (.imm (l'.map rRow)) [] := by
  have hof := one_fold pend ho
  have ce := rEntries_c dm pend ho hn
  have hEs : entsL (foldW dm pend) = entsL seen := entsL_ext hof hF.o hse
  rw [hEs] at ce
  have hasc := ents_asc hF.o
  have hme := fun k t => mem_ents (m := seen) hF.o (k := k) (t := t)
  have htx : ∀ e ∈ entsL seen, e.2.length ≤ 40000 := fun e he => hF.tx e.1 e.2 ((hme e.1 e.2).1 he)
  have hEl : (entsL seen).length ≤ 100000 := by
    rw [← hEs]
    have h1 := ents_le (foldW dm pend)
    have h2 := fold_len pend dm
    omega
  have hec := closedLL_eRows
  have hrc := closedLL_rRows
  refine acalls_F c74_ok rfl ?_
  unfold c74
  unfold refV at ce ⊢
  generalize entsL seen = E at ce hasc hme htx hEl
  simp +decide -dsimp -implicitDefEqProofs [go_sem]
  refine callE_pure ce (by simp +decide -dsimp -implicitDefEqProofs [go_sem, hec, wrR_cl]) (by simp +decide -dsimp -implicitDefEqProofs [go_sem, hec]) ?_
  simp +decide -dsimp -implicitDefEqProofs [go_sem]
  obtain ⟨D, hD⟩ : ∃ D, D = (entsL dm).map eRow := ⟨_, rfl⟩
  have hDc : ∀ k, closedLL k D = true := fun k => hD ▸ hec k _
  rw [← hD]
  have hwR := wrR_cl
  refine loop_of (S := Nat × List Rcd) (fun s => ⟨tmps 74 [(3, .own 1 s.2.length), (4, .imm (E.map eRow)), (5, .int .i64 s.1)], [.box 72 [.imm D, .imm (pend.map wrR)], .reg 34 12 (s.2.map rRow)]⟩) (fun s => E.length - s.1) (fun s => s.1 ≤ E.length ∧ RecsE (E.take s.1) s.2) (0, []) ⟨by simp, .nil⟩ ((Wk.nilT 3 34 12 rfl (by simp)).trans (cut_of (by simp) ?_)) ?_
  · simp +decide -dsimp -implicitDefEqProofs [go_sem, hec, hDc, hwR]
  rintro ⟨i, l⟩ ⟨hi, hR⟩
  simp only at hi hR
  by_cases h : i < E.length
  · have w : IntKind.i64.wrap ((i : Int) + 1) = i + 1 := w64 (by omega) (by omega)
    obtain ⟨r, b, hr, cw⟩ := rWhole_c E[i].1 E[i].2 (by have := htx E[i] (by simp); omega)
    have hst := hR.step (asc_take hasc h) hr
    have hs : E.take (i + 1) = E.take i ++ [(E[i].1, E[i].2)] := List.take_succ_eq_append_getElem h
    rw [← hs] at hst
    have hll : l.length ≤ E.length := Nat.le_trans hR.len (by rw [List.length_take]; omega)
    unfold recV at cw
    simp +decide -dsimp -implicitDefEqProofs [go_sem, h, eRow]
    refine callE_pure cw rfl (by simp +decide -dsimp -implicitDefEqProofs [go_sem, rRow_cl]) ?_
    cases b with
    | true =>
      have ha : l.map rRow ++ [rRow r] = (l ++ [r]).map rRow := by simp
      simp only [if_true] at hst
      simp +decide -dsimp -implicitDefEqProofs [go_sem, rRow_len, rRow_take, maxLen, w]
      refine ⟨⟨by omega, by omega⟩, ?_⟩
      rw [ha]
      refine next_of (i + 1, l ++ [r]) ⟨by show i + 1 ≤ E.length; omega, hst⟩ (by show E.length - (i + 1) < E.length - i; omega) (cut_of (by simp) ?_)
      simp +decide -dsimp -implicitDefEqProofs [go_sem, hec, hDc, hwR, hrc]
      exact rRow_cl _ _
    | false =>
      simp only [Bool.false_eq_true, if_false] at hst
      simp +decide -dsimp -implicitDefEqProofs [go_sem, rRow_len, w]
      refine next_of (i + 1, l) ⟨by show i + 1 ≤ E.length; omega, hst⟩ (by show E.length - (i + 1) < E.length - i; omega) (cut_of (by simp) ?_)
      simp +decide -dsimp -implicitDefEqProofs [go_sem, hec, hDc, hwR, hrc]
  · have e : i = E.length := by omega
    subst e
    rw [List.take_length] at hR
    have hok : okP l.toArray := fun x hx => sound_place ((hR.mem x).1 (by simpa using hx)).1
    have hfin : (insertionSort ltR l.toArray 0 l.toArray.size).toList = l' := by
      obtain ⟨h2, h3⟩ := sorted_asc hok hR.ds
      refine ascR_ext h3 hA.asc fun x => ?_
      rw [h2, hA.mem]
      show x ∈ l ↔ _
      rw [hR.mem, hme]
    have hsz : (insertionSort ltR l.toArray 0 l.toArray.size).size = l.length := (insertionSort_holds swo_ltR l.toArray 0 l.toArray.size (Nat.zero_le _) (Nat.le_refl _)).1.1
    have hll : l.length ≤ 100000 := Nat.le_trans hR.len hEl
    obtain ⟨d0, hd0⟩ : ∃ d, d = l.toArray := ⟨_, rfl⟩
    have hd1 : l.map rRow = rows d0 := by rw [hd0]; rfl
    have hd2 : l.length = d0.size := by rw [hd0]; rfl
    rw [← hd0] at hok hfin hsz
    rw [hd1, hd2]
    rw [hd2] at hsz hll
    obtain ⟨n, hN⟩ : ∃ n, n = d0.size := ⟨_, rfl⟩
    rw [← hN] at hsz hll ⊢
    simp +decide -dsimp -implicitDefEqProofs [go_sem]
    refine ⟨by rw [rows_len, hN], ?_⟩
    obtain ⟨R0, hR0⟩ : ∃ R, R = insOuter ltR 0 n 0 d0 := ⟨_, rfl⟩
    have hR1 : insertionSort ltR d0 0 n = R0 := by
      rw [hR0]
      unfold insertionSort
      by_cases h0 : 0 < n
      · conv => rhs; rw [insOuter, if_pos h0]
        rfl
      · conv => rhs; rw [insOuter, if_neg h0]
        rw [insOuter, if_neg (by omega)]
    rw [← hN, hR1] at hfin
    refine loop_of (S := Nat × Array Rcd) (fun s => ⟨tmps 74 [(3, .own 1 n), (32, .int .i64 n), (33, .int .i64 s.1)], [.box 72 [.imm D, .imm (pend.map wrR)], .reg 34 12 (rows s.2)]⟩) (fun s => n - s.1)
      (fun s => s.1 ≤ n ∧ s.2.size = n ∧ okP s.2 ∧ R0 = insOuter ltR 0 n s.1 s.2) (0, d0) ⟨Nat.zero_le _, hN.symm, hok, hR0⟩ (cut_of (by simp) ?_) ?_
    · simp +decide -dsimp -implicitDefEqProofs [go_sem, hDc, hwR]
      exact rows_cl _ _
    rintro ⟨i, d⟩ ⟨hi, hd, hok, hs⟩
    simp only at hi hd hok hs
    by_cases h : i < n
    · rw [insOuter, if_pos h] at hs
      have wi : IntKind.i64.wrap ((i : Int) + 1) = i + 1 := w64 (by omega) (by omega)
      simp +decide -dsimp -implicitDefEqProofs [go_sem, h]
      refine loop_of (S := Nat × Array Rcd) (fun s => ⟨tmps 74 [(3, .own 1 n), (9, .int .i64 s.1), (32, .int .i64 n), (33, .int .i64 i)], [.box 72 [.imm D, .imm (pend.map wrR)], .reg 34 12 (rows s.2)]⟩) (fun s => s.1)
        (fun s => s.1 ≤ i ∧ s.2.size = n ∧ okP s.2 ∧ insInner ltR 0 i d = insInner ltR 0 s.1 s.2) (i, d) ⟨Nat.le_refl _, hd, hok, rfl⟩ (cut_of (by simp) ?_) ?_
      · simp +decide -dsimp -implicitDefEqProofs [go_sem, hDc, hwR]
        exact rows_cl _ _
      rintro ⟨j, e⟩ ⟨hj, he, hoe, hse⟩
      simp only at hj he hoe hse
      obtain ⟨m, rfl⟩ | rfl : (∃ m, j = m + 1) ∨ j = 0 := by
        cases j with
        | zero => exact .inr rfl
        | succ m => exact .inl ⟨m, rfl⟩
      · have hle : (rows e).length = n := by rw [rows_len, he]
        have hm1 : m + 1 < n := by omega
        have hm : m < n := by omega
        have a1 : (rows e)[m + 1]'(by omega) = rRow e[m + 1]! := by have := rows_at (d := e) (j := m + 1) (by omega); rw [List.getElem?_eq_getElem (by omega)] at this; exact Option.some.inj this
        have a0 : (rows e)[m]'(by omega) = rRow e[m]! := by have := rows_at (d := e) (j := m) (by omega); rw [List.getElem?_eq_getElem (by omega)] at this; exact Option.some.inj this
        have hz : (0 : Int) ≤ (m : Int) + 1 := by omega
        have p1 := okP_at hoe (j := m + 1) (by omega)
        have p0 := okP_at hoe (j := m) (by omega)
        have cl := Order_c _ _ p1 p0
        have w : IntKind.i64.wrap (m : Int) = (m : Int) := w64 (by omega) (by omega)
        have hsw := rows_swp e (m + 1) m
        have hso := okP_swp hoe (i := m + 1) (j := m) (by omega) (by omega)
        rw [insInner] at hse
        simp only [Nat.zero_lt_succ, decide_true, gt_iff_lt, Bool.true_and] at hse
        simp +decide -dsimp -implicitDefEqProofs [go_sem, w, hz, hle, hm, hm1, a0, a1, ldK_path]
        refine callDE_pure cl rfl rfl ?_
        by_cases hlt : cmpP e[m + 1]!.path e[m]!.path < 0
        · rw [if_pos (by simpa [ltR] using hlt)] at hse
          simp +decide -dsimp -implicitDefEqProofs [go_sem, w, hz, hle, hm, hm1, a0, a1, rRow_len, rRow_take, rRow_drop, hlt]
          rw [hsw]
          refine next_of (m, swp e (m + 1) m) ⟨by show m ≤ i; omega, by show (swp e (m + 1) m).size = n; rw [swp_size, he], hso, hse⟩ (Nat.lt_succ_self m) (cut_of (by simp) ?_)
          simp +decide -dsimp -implicitDefEqProofs [go_sem, hDc, hwR]
          exact rows_cl _ _
        · rw [if_neg (by simpa [ltR] using hlt)] at hse
          simp +decide -dsimp -implicitDefEqProofs [go_sem, hlt, wi]
          rw [hse] at hs
          refine next_of (i + 1, e) ⟨by show i + 1 ≤ n; omega, he, hoe, hs⟩ (by show n - (i + 1) < n - i; omega) (cut_of (by simp) ?_)
          simp +decide -dsimp -implicitDefEqProofs [go_sem, hDc, hwR]
          exact rows_cl _ _
      · rw [insInner] at hse
        rw [hse] at hs
        simp +decide -dsimp -implicitDefEqProofs [go_sem, wi]
        refine next_of (i + 1, e) ⟨by show i + 1 ≤ n; omega, he, hoe, hs⟩ (by show n - (i + 1) < n - i; omega) (cut_of (by simp) ?_)
        simp +decide -dsimp -implicitDefEqProofs [go_sem, hDc, hwR]
        exact rows_cl _ _
    · rw [insOuter, if_neg h] at hs
      have hl' : l' = d.toList := by rw [← hfin, hs]
      simp +decide -dsimp -implicitDefEqProofs [go_sem, h]
      exact ⟨by rw [hl', Array.length_toList, hd], by rw [hl']; rfl, hrc _ _⟩
end Go.Ab
namespace Go.Ab
open Go Go.Proofs Go.Sort
structure Like (dm : TMap) (pend : List Wr) (seen : TMap) (n : Nat) : Prop where
  o : oneS' dm
  F : Fine seen n
  e : ∀ k, getS k (foldW dm pend) = getS k seen
  n : dm.length + pend.length ≤ 100000
theorem Like.ents {dm seen : TMap} {pend : List Wr} {n : Nat} (h : Like dm pend seen n) : entsL (foldW dm pend) = entsL seen := entsL_ext (one_fold pend h.o) h.F.o h.e
theorem Like.len {dm seen : TMap} {pend : List Wr} {n : Nat} (h : Like dm pend seen n) : (entsL seen).length ≤ 100000 := by
  rw [← h.ents]
  have h1 := ents_le (foldW dm pend)
  have h2 := fold_len pend dm
  have := h.n
  omega
theorem Like.ents_c {dm seen : TMap} {pend : List Wr} {n : Nat} (h : Like dm pend seen n) : ACalls Tryz.prog 76 [refV dm pend] [] (.imm ((entsL seen).map eRow)) [] := by
  have := rEntries_c dm pend h.o h.n
  rwa [h.ents] at this
theorem Like.all_c {dm seen : TMap} {pend : List Wr} {n : Nat} (h : Like dm pend seen n) {l : List Rcd} (hA : AllOf seen l) : ACalls Tryz.prog 74 [refV dm pend] [] (.imm (l.map rRow)) [] :=
  rAll_c dm pend seen h.o h.n h.F h.e l hA
theorem readT_of {m : TMap} {n t : List UInt8} (h : getS n m = some t) {r : Rcd} {b : Bool} : readT t n r b ↔ readOf m n r b := by
  unfold readT readOf; rw [h]; rfl
set_option maxRecDepth 20000 in
set_option maxHeartbeats 4000000 in
theorem rDamaged_c {dm seen : TMap} {pend : List Wr} {n : Nat} (h : Like dm pend seen n) : ACalls Tryz.prog 75 [refV dm pend] [] (.imm ((dmgL seen).map sRow)) [] := by
  classical
  have ce := h.ents_c
  have hme := fun k t => mem_ents (m := seen) h.F.o (k := k) (t := t)
  have hEl := h.len
  have hw : ∀ e ∈ entsL seen, ∃ r b, b = decide (wholeP seen e.1) ∧ ACalls Tryz.prog 118 [.agg [.str e.1, .str e.2]] [] (recV r b) [] := fun e he => by
    have hg := (hme e.1 e.2).1 he
    obtain ⟨r, b, hr, cw⟩ := rWhole_c e.1 e.2 (by have := h.F.tx _ _ hg; omega)
    refine ⟨r, b, ?_, cw⟩
    have := readOf_iff ((readT_of hg).1 hr)
    cases b <;> simp_all
  have hdm : dmgL seen = ((entsL seen).map (·.1)).filter fun n => !decide (wholeP seen n) := by
    have : (entsL seen).map (·.1) = srtK (ksS seen) := by
      unfold entsL
      rw [List.map_map]
      exact List.map_id _
    rw [this]; unfold dmgL; congr
  rw [hdm]
  have hec := closedLL_eRows
  have hss : ∀ (k : Nat) (l : List (List UInt8)), closedLL k (l.map sRow) = true := fun k l => closedLL_map fun _ _ => rfl
  refine acalls_F c75_ok rfl ?_
  unfold c75
  unfold refV at ce ⊢
  generalize entsL seen = E at ce hme hEl hw
  obtain ⟨D, hD⟩ : ∃ D, D = (entsL dm).map eRow := ⟨_, rfl⟩
  have hDc : ∀ k, closedLL k D = true := fun k => hD ▸ hec k _
  rw [← hD] at ce ⊢
  have hwR := wrR_cl
  simp +decide -dsimp -implicitDefEqProofs [go_sem]
  refine callE_pure ce (by simp +decide -dsimp -implicitDefEqProofs [go_sem, hDc, hwR]) (by simp +decide -dsimp -implicitDefEqProofs [go_sem, hec]) ?_
  simp +decide -dsimp -implicitDefEqProofs [go_sem]
  refine loop_of (S := Nat) (fun i => ⟨tmps 35 [(3, .own 1 (((E.take i).map (·.1)).filter fun n => !decide (wholeP seen n)).length), (4, .imm (E.map eRow)), (5, .int .i64 i)], [.box 72 [.imm D, .imm (pend.map wrR)], .reg 9 1 ((((E.take i).map (·.1)).filter fun n => !decide (wholeP seen n)).map sRow)]⟩) (fun i => E.length - i) (fun i => i ≤ E.length) 0 (by simp) ((Wk.nilT 3 9 1 rfl (by simp)).trans (cut_of (by simp) ?_)) ?_
  · simp +decide -dsimp -implicitDefEqProofs [go_sem, hec, hDc, hwR]
  intro i hi
  by_cases h : i < E.length
  · have w : IntKind.i64.wrap ((i : Int) + 1) = i + 1 := w64 (by omega) (by omega)
    obtain ⟨r, b, hb, cr⟩ := hw E[i] (by simp)
    have htk : ((E.take (i + 1)).map (·.1)).filter (fun n => !decide (wholeP seen n)) = ((E.take i).map (·.1)).filter (fun n => !decide (wholeP seen n)) ++ (if b = true then [] else [E[i].1]) := by
      rw [List.take_succ_eq_append_getElem h, List.map_append, List.filter_append]
      congr 1
      cases b <;> simp [← hb]
    have hfl : (((E.take i).map (·.1)).filter fun n => !decide (wholeP seen n)).length ≤ E.length := Nat.le_trans (List.length_filter_le _ _) (by simp; omega)
    generalize ((E.take i).map (·.1)).filter (fun n => !decide (wholeP seen n)) = fl at htk hfl
    unfold recV at cr
    simp +decide -dsimp -implicitDefEqProofs [go_sem, h, eRow]
    refine callE_pure cr rfl (by simp +decide -dsimp -implicitDefEqProofs [go_sem, rRow_cl]) ?_
    cases b with
    | true =>
      simp +decide -dsimp -implicitDefEqProofs [go_sem, rRow_len, w]
      refine next_of (i + 1) (by show i + 1 ≤ E.length; omega) (by show E.length - (i + 1) < E.length - i; omega) (cut_of (by simp) ?_)
      rw [htk]
      simp +decide -dsimp -implicitDefEqProofs [go_sem, hec, hDc, hwR, hss]
    | false =>
      have ha : fl.map sRow ++ [[AV.str E[i].1]] = (fl ++ [E[i].1]).map sRow := by simp [sRow]
      simp +decide -dsimp -implicitDefEqProofs [go_sem, h, rRow_len, w, maxLen, eRow]
      refine ⟨⟨by omega, by omega⟩, ?_⟩
      rw [ha]
      refine next_of (i + 1) (by show i + 1 ≤ E.length; omega) (by show E.length - (i + 1) < E.length - i; omega) (cut_of (by simp) ?_)
      rw [htk]
      simp +decide -dsimp -implicitDefEqProofs [go_sem, hec, hDc, hwR, hss]
      rfl
  · have e : i = E.length := by omega
    subst e
    rw [List.take_length]
    simp +decide -dsimp -implicitDefEqProofs [go_sem, hss]
def getR (l : List Rcd) (p : List UInt8) (r : Rcd) (b : Bool) : Prop := (∃ x ∈ l, x.path = p ∧ r = x ∧ b = true) ∨ ((∀ x ∈ l, x.path ≠ p) ∧ r = nil0 ∧ b = false)
theorem getR_of {seen : TMap} {l : List Rcd} (hA : AllOf seen l) {p : List UInt8} {r : Rcd} {b : Bool} (hr : readOf seen (entL p) r b) : getR l p r b := by
  rcases hr with ⟨x, hx, hxe, he, rfl, rfl⟩ | ⟨hno, rfl, rfl⟩
  · refine .inl ⟨_, (hA.mem _).2 ⟨hx, ?_⟩, ent_inj he, rfl, rfl⟩
    rw [he]
    cases hg : getS (entL p) seen with
    | none => rw [hg] at hxe; exact (enc_ne _ hxe).elim
    | some t => rw [hg] at hxe; exact congrArg some hxe.symm
  · refine .inr ⟨fun x hx hp => ?_, rfl, rfl⟩
    obtain ⟨h1, h2⟩ := (hA.mem x).1 hx
    rw [hp] at h2
    exact hno x h1 (by rw [h2]; rfl) (by rw [hp])
set_option maxRecDepth 20000 in
theorem rGet_c {dm seen : TMap} {pend : List Wr} {n : Nat} (h : Like dm pend seen n) {l : List Rcd} (hA : AllOf seen l) (hl : l.length ≤ 100000) (p : List UInt8) {r : Rcd} {b : Bool} (hr : getR l p r b) : ACalls Tryz.prog 82 [refV dm pend, .str p] [] (recV r b) [] := by
  have ca := h.all_c hA
  have hrc := closedLL_rRows
  have hec := closedLL_eRows
  have hasc := hA.asc
  have huq : ∀ x ∈ l, ∀ y ∈ l, x.path = y.path → x = y := fun x hx y hy e => by
    obtain ⟨h1, h2⟩ := (hA.mem x).1 hx
    obtain ⟨h3, h4⟩ := (hA.mem y).1 hy
    rw [e, h4] at h2
    exact enc_inj h1 h3 (Option.some.inj h2).symm
  refine acalls_F c82_ok rfl ?_
  unfold c82
  unfold refV at ca ⊢
  unfold recV
  simp +decide -dsimp -implicitDefEqProofs [go_sem]
  refine callE_pure ca (by simp +decide -dsimp -implicitDefEqProofs [go_sem, hec, wrR_cl]) (by simp +decide -dsimp -implicitDefEqProofs [go_sem, hrc]) ?_
  simp +decide -dsimp -implicitDefEqProofs [go_sem]
  refine loop_of (S := Nat) (fun i => ⟨tmps 28 [(1, .str p), (4, .ptr 1 0), (6, .imm (l.map rRow)), (7, .int .i64 i)], [.box 72 [.imm ((entsL dm).map eRow), .imm (pend.map wrR)], .box 34 [.str [], .int .i64 0, .nils, .nils, .nils, .nils, .nils, .str [], .int .i64 0, .str [], .str [], .int .i64 0]]⟩) (fun i => l.length - i) (fun i => i ≤ l.length ∧ ∀ x ∈ l.take i, x.path ≠ p) 0 (by simp) (cut_of (by simp) ?_) ?_
  · simp +decide -dsimp -implicitDefEqProofs [go_sem, hec, hrc, wrR_cl]
  rintro i ⟨hi, hn⟩
  by_cases h : i < l.length
  · have w : IntKind.i64.wrap ((i : Int) + 1) = i + 1 := w64 (by omega) (by omega)
    by_cases he : l[i].path = p
    · obtain ⟨rfl, rfl⟩ : r = l[i] ∧ b = true := by
        rcases hr with ⟨x, hx, hp, rfl, rfl⟩ | ⟨hno, _⟩
        · exact ⟨huq _ hx _ (by simp) (hp.trans he.symm), rfl⟩
        · exact (hno _ (by simp) he).elim
      simp +decide -dsimp -implicitDefEqProofs [go_sem, h, rRow_len, rRow_take, ldK_path, he]
      exact cvT_row _ _ _
    · simp +decide -dsimp -implicitDefEqProofs [go_sem, h, rRow_len, rRow_take, ldK_path, he, w]
      refine next_of (i + 1) ⟨by show i + 1 ≤ l.length; omega, fun x hx => ?_⟩ (by show l.length - (i + 1) < l.length - i; omega) (cut_of (by simp) ?_)
      · rw [List.take_succ_eq_append_getElem h] at hx
        rcases List.mem_append.1 hx with hx | hx
        · exact hn x hx
        · simp only [List.mem_singleton] at hx; subst hx; exact he
      simp +decide -dsimp -implicitDefEqProofs [go_sem, hec, hrc, wrR_cl]
  · have e : i = l.length := by omega
    subst e
    rw [List.take_length] at hn
    obtain ⟨rfl, rfl⟩ : r = nil0 ∧ b = false := by
      rcases hr with ⟨x, hx, hp, _⟩ | ⟨_, h1, h2⟩
      · exact (hn x hx hp).elim
      · exact ⟨h1, h2⟩
    rw [nil0_row]
    simp +decide -dsimp -implicitDefEqProofs [go_sem]
end Go.Ab
namespace Go.Ab
open Go Go.Proofs Go.Sort
theorem Like.put {dm seen : TMap} {pend : List Wr} {n : Nat} (h : Like dm pend seen n) (w : Wr) (hF : Fine (doW seen w) (n + 1)) (hn : dm.length + pend.length + 1 ≤ 100000) : Like dm (pend ++ [w]) (doW seen w) (n + 1) :=
  ⟨h.o, hF, fun k => by rw [foldW_snoc, get_doW (one_fold pend h.o), get_doW h.F.o, h.e], by rw [List.length_append]; exact hn⟩
theorem Fine.doW {m : TMap} {n : Nat} (h : Fine m n) {w : Wr} (h1 : w.1.length ≤ 1000000) (h2 : ∀ t, w.2 = some t → t.length ≤ 40000) : Fine (doW m w) (n + 1) := by
  unfold Go.Ab.doW
  split
  · rename_i t e; exact h.set h1 (h2 t e)
  · exact (h.del _).le (Nat.le_succ n)
theorem hasB_ents {m : TMap} (ho : oneS' m) (n : List UInt8) : hasB (entsL m) n = (getS n m).isSome := by
  rw [Bool.eq_iff_iff]
  unfold hasB
  rw [List.any_eq_true]
  constructor
  · rintro ⟨⟨a, b⟩, h1, h2⟩
    simp only [decide_eq_true_eq] at h2
    subst h2
    rw [(mem_ents ho).1 h1]; rfl
  · intro h
    obtain ⟨t, ht⟩ := Option.isSome_iff_exists.1 h
    exact ⟨(n, t), (mem_ents ho).2 ht, by simp⟩
theorem ent_small {p : List UInt8} (h : placeB p = true) : (entL p).length ≤ 1000000 := by have := entL_len p; have := path_small h; omega
section
variable {dm seen : TMap} {pend : List Wr} {n : Nat} (h : Like dm pend seen n)
include h
set_option maxRecDepth 20000 in
set_option maxHeartbeats 4000000 in
theorem rPut_c (r : Rcd) (hf : Few r) (hc : cntS seen < 512) :
    (soundB r = true → ACalls Tryz.prog 78 [refV dm pend, .agg (rRow r)] [] (.tup [refV dm (pend ++ [(entL r.path, some (encT r))]), .int .i64 0]) []) ∧
    (¬ soundB r = true → ACalls Tryz.prog 78 [refV dm pend, .agg (rRow r)] [] (.tup [refV dm pend, .int .i64 260]) []) := by
  have ce := rEncode_c r hf
  have cE := h.ents_c
  have hl := ents_len' (m := seen)
  have hlt : ¬ (512 : Int) ≤ (entsL seen).length := by rw [hl]; omega
  have hec := closedLL_eRows
  have hwR := wrR_cl
  refine ⟨fun hS => ?_, fun hS => ?_⟩
  · rw [(chk_ok hS).1, (chk_ok hS).2] at ce
    have cn := rEntry_c r.path (by have := (small_of hS).path; omega)
    unfold entV at cn
    simp only [sound_place hS, if_true] at cn
    have cw := write_c dm pend (entL r.path, some (encT r)) (by have := h.n; omega)
    unfold refV wrR at cw
    unfold refV at cE
    simp only [Option.getD_some, Option.isNone_some] at cw
    refine acalls_F c78_ok rfl ?_
    unfold c78 refV
    generalize entsL seen = E at cE hlt
    obtain ⟨D, hD⟩ : ∃ D, D = (entsL dm).map eRow := ⟨_, rfl⟩
    have hDc : ∀ k, closedLL k D = true := fun k => hD ▸ hec k _
    rw [← hD] at cE cw ⊢
    obtain ⟨Q, hQ⟩ : ∃ Q, Q = (pend ++ [(entL r.path, some (encT r))]).map wrR := ⟨_, rfl⟩
    have hQc : ∀ k, closedLL k Q = true := fun k => hQ ▸ hwR k _
    have hQ' : List.map (fun w : Wr => [AV.str w.1, AV.str (w.2.getD []), AV.bool w.2.isNone]) (pend ++ [(entL r.path, some (encT r))]) = Q := hQ.symm
    rw [hQ'] at cw
    rw [← hQ]
    obtain ⟨V, hV⟩ : ∃ V, V = pend.map wrR := ⟨_, rfl⟩
    have hVc : ∀ k, closedLL k V = true := fun k => hV ▸ hwR k _
    have hV' : List.map (fun w : Wr => [AV.str w.1, AV.str (w.2.getD []), AV.bool w.2.isNone]) pend = V := hV.symm
    rw [hV'] at cw
    rw [← hV] at cE ⊢
    clear hQ hV hQ' hV' hD
    have hcl := rRow_cl 0 r
    simp +decide -dsimp -implicitDefEqProofs [go_sem, rRow_len, rRow_take]
    refine callE_pure ce (by simp +decide -dsimp -implicitDefEqProofs [go_sem, rRow_cl]) rfl ?_
    unfold rRow
    simp +decide -dsimp -implicitDefEqProofs [go_sem]
    refine callE_pure cn rfl rfl ?_
    simp +decide -dsimp -implicitDefEqProofs [go_sem]
    refine callE_pure cE (by simp +decide -dsimp -implicitDefEqProofs [go_sem, hDc, hVc]) (by simp +decide -dsimp -implicitDefEqProofs [go_sem, hec]) ?_
    simp +decide -dsimp -implicitDefEqProofs [go_sem, hlt]
    refine callE_pure cw (by simp +decide -dsimp -implicitDefEqProofs [go_sem, hDc, hVc]) (by simp +decide -dsimp -implicitDefEqProofs [go_sem, hDc, hQc]) ?_
    simp +decide -dsimp -implicitDefEqProofs [go_sem, hDc, hQc]
  · rw [(chk_not hS).1] at ce
    refine acalls_F c78_ok rfl ?_
    unfold c78 refV
    simp +decide -dsimp -implicitDefEqProofs [go_sem, rRow_len, rRow_take]
    refine callE_pure ce (by simp +decide -dsimp -implicitDefEqProofs [go_sem, rRow_cl]) rfl ?_
    simp +decide -dsimp -implicitDefEqProofs [go_sem, hec, hwR]
end
set_option maxRecDepth 20000 in
set_option maxHeartbeats 2000000 in
theorem PutBad_c (dur seen : TMap) (pend : List Wr) (r : Rcd) (hf : Few r) (hS : ¬ soundB r = true) :
    ACalls Tryz.prog 18 [.ptr 0 0, .agg (rRow r)] (dbO dur seen pend) (.int .i64 260) (dbO dur seen pend) := by
  have ce := Encode_c r hf
  rw [(chk_not hS).1] at ce
  have hcl := wRows_cl
  have hsc : ∀ (m : TMap) (k : Nat) (a b : AV), (a, b) ∈ smK .str m → closed k a = true ∧ closed k b = true := fun m k => smK_clm (k := k) fun _ => rfl
  refine acalls_F c18_ok rfl ?_
  unfold c18
  unfold dbO dbB mO
  simp +decide -dsimp -implicitDefEqProofs [go_sem, rRow_len, rRow_take]
  refine callE_pure ce (by simp +decide -dsimp -implicitDefEqProofs [go_sem, rRow_cl]) rfl ?_
  simp +decide -dsimp -implicitDefEqProofs [go_sem, hcl]
  (repeat' apply And.intro) <;> first | exact hsc _ _ | exact hcl _ _ | rfl
end Go.Ab
namespace Go.Ab
open Go Go.Proofs Go.Sort
section
variable {dm seen : TMap} {pend : List Wr} {n : Nat} (h : Like dm pend seen n)
include h
set_option maxRecDepth 20000 in
set_option maxHeartbeats 4000000 in
theorem rDelete_c (p : List UInt8) (hpl : placeB p = true) :
    (getS (entL p) seen ≠ none → ACalls Tryz.prog 79 [refV dm pend, .str p] [] (.tup [refV dm (pend ++ [(entL p, none)]), .int .i64 0]) []) ∧
    (getS (entL p) seen = none → ACalls Tryz.prog 79 [refV dm pend, .str p] [] (.tup [refV dm pend, .int .i64 262]) []) := by
  have cE := h.ents_c
  have cn := rEntry_c p (by have := path_small hpl; omega)
  unfold entV at cn
  simp only [hpl, if_true] at cn
  have ch := dHas_c (entsL seen) (entL p) (by have := h.len; omega)
  rw [hasB_ents h.F.o] at ch
  have hec := closedLL_eRows
  have hwR := wrR_cl
  refine ⟨fun hg => ?_, fun hg => ?_⟩
  · have hs : (getS (entL p) seen).isSome = true := by cases e : getS (entL p) seen with | none => exact absurd e hg | some t => rfl
    rw [hs] at ch
    have cw := write_c dm pend (entL p, none) (by have := h.n; omega)
    unfold refV wrR at cw
    unfold refV at cE
    simp only [Option.getD_none, Option.isNone_none] at cw
    refine acalls_F c79_ok rfl ?_
    unfold c79 refV
    generalize entsL seen = E at cE ch
    obtain ⟨D, hD⟩ : ∃ D, D = (entsL dm).map eRow := ⟨_, rfl⟩
    have hDc : ∀ k, closedLL k D = true := fun k => hD ▸ hec k _
    rw [← hD] at cE cw ⊢
    obtain ⟨Q, hQ⟩ : ∃ Q, Q = (pend ++ [(entL p, none)]).map wrR := ⟨_, rfl⟩
    have hQc : ∀ k, closedLL k Q = true := fun k => hQ ▸ hwR k _
    have hQ' : List.map (fun w : Wr => [AV.str w.1, AV.str (w.2.getD []), AV.bool w.2.isNone]) (pend ++ [(entL p, none)]) = Q := hQ.symm
    rw [hQ'] at cw
    rw [← hQ]
    obtain ⟨V, hV⟩ : ∃ V, V = pend.map wrR := ⟨_, rfl⟩
    have hVc : ∀ k, closedLL k V = true := fun k => hV ▸ hwR k _
    have hV' : List.map (fun w : Wr => [AV.str w.1, AV.str (w.2.getD []), AV.bool w.2.isNone]) pend = V := hV.symm
    rw [hV'] at cw
    rw [← hV] at cE ⊢
    clear hQ hV hQ' hV' hD
    simp +decide -dsimp -implicitDefEqProofs [go_sem]
    refine callE_pure cn rfl rfl ?_
    simp +decide -dsimp -implicitDefEqProofs [go_sem]
    refine callE_pure cE (by simp +decide -dsimp -implicitDefEqProofs [go_sem, hDc, hVc]) (by simp +decide -dsimp -implicitDefEqProofs [go_sem, hec]) ?_
    simp +decide -dsimp -implicitDefEqProofs [go_sem]
    refine callE_pure ch (by simp +decide -dsimp -implicitDefEqProofs [go_sem, hec]) rfl ?_
    simp +decide -dsimp -implicitDefEqProofs [go_sem]
    refine callE_pure cw (by simp +decide -dsimp -implicitDefEqProofs [go_sem, hDc, hVc]) (by simp +decide -dsimp -implicitDefEqProofs [go_sem, hDc, hQc]) ?_
    simp +decide -dsimp -implicitDefEqProofs [go_sem, hDc, hQc]
  · rw [hg] at ch
    unfold refV at cE
    refine acalls_F c79_ok rfl ?_
    unfold c79 refV
    generalize entsL seen = E at cE ch
    simp +decide -dsimp -implicitDefEqProofs [go_sem]
    refine callE_pure cn rfl rfl ?_
    simp +decide -dsimp -implicitDefEqProofs [go_sem]
    refine callE_pure cE (by simp +decide -dsimp -implicitDefEqProofs [go_sem, hec, hwR]) (by simp +decide -dsimp -implicitDefEqProofs [go_sem, hec]) ?_
    simp +decide -dsimp -implicitDefEqProofs [go_sem]
    refine callE_pure ch (by simp +decide -dsimp -implicitDefEqProofs [go_sem, hec]) rfl ?_
    simp +decide -dsimp -implicitDefEqProofs [go_sem, hec, hwR]
set_option maxRecDepth 20000 in
set_option maxHeartbeats 4000000 in
theorem rClean_c (nm : List UInt8) :
    (nm ∈ dmgL seen → ACalls Tryz.prog 80 [refV dm pend, .str nm] [] (.tup [refV dm (pend ++ [(nm, none)]), .int .i64 0]) []) ∧
    (nm ∉ dmgL seen → ACalls Tryz.prog 80 [refV dm pend, .str nm] [] (.tup [refV dm pend, .int .i64 262]) []) := by
  classical
  have cD := rDamaged_c h
  have hdl : (dmgL seen).length ≤ 100000 := by
    have h1 : (dmgL seen).length ≤ (srtK (ksS seen)).length := by unfold dmgL; exact List.length_filter_le _ _
    rw [srtK_len, ksS_len] at h1
    have h2 := ents_len' (m := seen)
    have := h.len
    omega
  have cw := write_c dm pend (nm, none) (by have := h.n; omega)
  unfold refV wrR at cw
  unfold refV at cD
  simp only [Option.getD_none, Option.isNone_none] at cw
  have hec := closedLL_eRows
  have hwR := wrR_cl
  have hss : ∀ (k : Nat) (l : List (List UInt8)), closedLL k (l.map sRow) = true := fun k l => closedLL_map fun _ _ => rfl
  suffices hh : ACalls Tryz.prog 80 [refV dm pend, .str nm] [] (.tup [refV dm (if nm ∈ dmgL seen then pend ++ [(nm, none)] else pend), .int .i64 (if nm ∈ dmgL seen then 0 else 262)]) [] by
    refine ⟨fun hm => ?_, fun hm => ?_⟩
    · rwa [if_pos hm, if_pos hm] at hh
    · rwa [if_neg hm, if_neg hm] at hh
  refine acalls_F c80_ok rfl ?_
  unfold c80 refV
  generalize dmgL seen = L at cD hdl
  obtain ⟨D, hD⟩ : ∃ D, D = (entsL dm).map eRow := ⟨_, rfl⟩
  have hDc : ∀ k, closedLL k D = true := fun k => hD ▸ hec k _
  rw [← hD] at cD cw ⊢
  obtain ⟨Q, hQ⟩ : ∃ Q, Q = (pend ++ [(nm, none)]).map wrR := ⟨_, rfl⟩
  have hQc : ∀ k, closedLL k Q = true := fun k => hQ ▸ hwR k _
  have hQ' : List.map (fun w : Wr => [AV.str w.1, AV.str (w.2.getD []), AV.bool w.2.isNone]) (pend ++ [(nm, none)]) = Q := hQ.symm
  rw [hQ'] at cw
  obtain ⟨V, hV⟩ : ∃ V, V = pend.map wrR := ⟨_, rfl⟩
  have hVc : ∀ k, closedLL k V = true := fun k => hV ▸ hwR k _
  have hV' : List.map (fun w : Wr => [AV.str w.1, AV.str (w.2.getD []), AV.bool w.2.isNone]) pend = V := hV.symm
  rw [hV'] at cw
  have hG : (List.map wrR (if nm ∈ L then pend ++ [(nm, none)] else pend)) = if nm ∈ L then Q else V := by split <;> simp [hQ, hV]
  rw [← hV] at cD
  rw [hG, ← hV]
  clear hQ hV hQ' hV' hD hG
  simp +decide -dsimp -implicitDefEqProofs [go_sem]
  refine callE_pure cD (by simp +decide -dsimp -implicitDefEqProofs [go_sem, hDc, hVc]) (by simp +decide -dsimp -implicitDefEqProofs [go_sem, hss]) ?_
  simp +decide -dsimp -implicitDefEqProofs [go_sem]
  refine loop_of (S := Nat) (fun i => ⟨tmps 28 [(1, .str nm), (2, .ptr 0 0), (4, .ptr 1 0), (5, .int .i64 0), (6, .imm (L.map sRow)), (7, .int .i64 i)], [.box 72 [.imm D, .imm V], .box 72 [.nils, .nils]]⟩) (fun i => L.length - i) (fun i => i ≤ L.length ∧ nm ∉ L.take i) 0 (by simp) (cut_of (by simp) ?_) ?_
  · simp +decide -dsimp -implicitDefEqProofs [go_sem, hDc, hVc, hss]
  rintro i ⟨hi, hn⟩
  by_cases h : i < L.length
  · have w : IntKind.i64.wrap ((i : Int) + 1) = i + 1 := w64 (by omega) (by omega)
    by_cases he : L[i] = nm
    · have hm : nm ∈ L := he ▸ List.getElem_mem _
      rw [if_pos hm, if_pos hm]
      simp +decide -dsimp -implicitDefEqProofs [go_sem, h, he]
      refine callE_pure cw (by simp +decide -dsimp -implicitDefEqProofs [go_sem, hDc, hVc]) (by simp +decide -dsimp -implicitDefEqProofs [go_sem, hDc, hQc]) ?_
      simp +decide -dsimp -implicitDefEqProofs [go_sem, hDc, hQc]
    · simp +decide -dsimp -implicitDefEqProofs [go_sem, h, he, w]
      refine next_of (i + 1) ⟨by show i + 1 ≤ L.length; omega, fun hx => ?_⟩ (by show L.length - (i + 1) < L.length - i; omega) (cut_of (by simp) ?_)
      · rw [List.take_succ_eq_append_getElem h] at hx
        rcases List.mem_append.1 hx with hx | hx
        · exact hn hx
        · simp only [List.mem_singleton] at hx; exact he hx.symm
      simp +decide -dsimp -implicitDefEqProofs [go_sem, hDc, hVc, hss]
  · have e : i = L.length := by omega
    subst e
    rw [List.take_length] at hn
    rw [if_neg hn, if_neg hn]
    simp +decide -dsimp -implicitDefEqProofs [go_sem, hDc, hVc]
end
end Go.Ab
namespace Go.Ab
open Go Go.Proofs Go.Sort
section
variable (dur seen : TMap) (pend : List Wr) (p : List UInt8) (hpl : ¬ placeB p = true) (hpn : p.length ≤ 400000)
include hpl hpn
set_option maxRecDepth 20000 in
theorem DeleteBad_c : ACalls Tryz.prog 16 [.ptr 0 0, .str p] (dbO dur seen pend) (.int .i64 262) (dbO dur seen pend) := by
  have cn := Entry_c p hpn
  unfold entV at cn
  simp only [hpl, Bool.false_eq_true, if_false] at cn
  have hk := keys_smK AV.str [] seen
  have hcl := wRows_cl
  have hsc : ∀ (m : TMap) (k : Nat) (a b : AV), (a, b) ∈ smK .str m → closed k a = true ∧ closed k b = true := fun m k => smK_clm (k := k) fun _ => rfl
  refine acalls_F c16_ok rfl ?_
  unfold c16 dbO dbB mO
  simp +decide -dsimp -implicitDefEqProofs [go_sem]
  refine callE_pure cn rfl rfl ?_
  simp +decide -dsimp -implicitDefEqProofs [go_sem, hk, hcl]
  exact ⟨hsc _ _, hsc _ _⟩
set_option maxRecDepth 20000 in
theorem GetBad_c : ACalls Tryz.prog 20 [.ptr 0 0, .str p] (dbO dur seen pend) (recV nil0 false) (dbO dur seen pend) := by
  have cn := Entry_c p hpn
  unfold entV at cn
  simp only [hpl, Bool.false_eq_true, if_false] at cn
  have hcl := wRows_cl
  have hsc : ∀ (m : TMap) (k : Nat) (a b : AV), (a, b) ∈ smK .str m → closed k a = true ∧ closed k b = true := fun m k => smK_clm (k := k) fun _ => rfl
  refine acalls_F c20_ok rfl ?_
  unfold c20 dbO dbB mO recV
  rw [nil0_row]
  simp +decide -dsimp -implicitDefEqProofs [go_sem]
  refine callE_pure cn rfl rfl ?_
  simp +decide -dsimp -implicitDefEqProofs [go_sem, hcl]
  exact ⟨hsc _ _, hsc _ _⟩
omit seen in
theorem rDeleteBad_c : ACalls Tryz.prog 79 [refV dur pend, .str p] [] (.tup [refV dur pend, .int .i64 262]) [] := by
  have cn := rEntry_c p hpn
  unfold entV at cn
  simp only [hpl, Bool.false_eq_true, if_false] at cn
  refine acalls_F c79_ok rfl ?_
  unfold c79 refV
  simp +decide -dsimp -implicitDefEqProofs [go_sem]
  refine callE_pure cn rfl rfl ?_
  simp +decide -dsimp -implicitDefEqProofs [go_sem, closedLL_eRows, wrR_cl]
end
structure Cpl (dur seen : TMap) (pend : List Wr) (n : Nat) : Prop where
  L : Like dur pend seen n
  hn : dur.length + pend.length ≤ n
  FD : Fine dur n
  wk : ∀ w ∈ pend, w.1.length ≤ 1000000 ∧ ∀ t, w.2 = some t → t.length ≤ 40000
theorem Cpl.new : Cpl [] [] [] 0 := ⟨⟨trivial, .nil, fun _ => rfl, by simp⟩, by simp, .nil, by simp⟩
theorem Cpl.le {dur seen : TMap} {pend : List Wr} {n n' : Nat} (h : Cpl dur seen pend n) (hn : n ≤ n') : Cpl dur seen pend n' :=
  ⟨⟨h.L.o, h.L.F.le hn, h.L.e, h.L.n⟩, Nat.le_trans h.hn hn, h.FD.le hn, h.wk⟩
theorem Cpl.put {dur seen : TMap} {pend : List Wr} {n : Nat} (h : Cpl dur seen pend n) (w : Wr) (h1 : w.1.length ≤ 1000000) (h2 : ∀ t, w.2 = some t → t.length ≤ 40000) (hn : n < 100000) : Cpl dur (Go.Ab.doW seen w) (pend ++ [w]) (n + 1) :=
  ⟨h.L.put w (h.L.F.doW h1 h2) (by have := h.hn; omega), by rw [List.length_append]; have := h.hn; simp only [List.length_cons, List.length_nil]; omega, h.FD.le (Nat.le_succ n), fun x hx => by
    rcases List.mem_append.1 hx with hx | hx
    · exact h.wk x hx
    · simp only [List.mem_singleton] at hx; subst hx; exact ⟨h1, h2⟩⟩
theorem Cpl.sync {dur seen : TMap} {pend : List Wr} {n : Nat} (h : Cpl dur seen pend n) (hn : n ≤ 100000) : Cpl seen seen [] n :=
  ⟨⟨h.L.F.o, h.L.F, fun _ => rfl, by have := h.L.F.n; simp; omega⟩, by have := h.L.F.n; simpa using this, h.L.F, by simp⟩
theorem Fine.fold {m : TMap} : ∀ (l : List Wr) {n : Nat}, Fine m n → (∀ w ∈ l, w.1.length ≤ 1000000 ∧ ∀ t, w.2 = some t → t.length ≤ 40000) → Fine (foldW m l) (n + l.length) := fun l => by
  induction l generalizing m with
  | nil => intro n h _; exact h
  | cons w l ih =>
    intro n h hw
    have := ih (h.doW (hw w (by simp)).1 (hw w (by simp)).2) fun x hx => hw x (by simp [hx])
    rw [List.length_cons, show n + (l.length + 1) = n + 1 + l.length by omega]
    exact this
theorem Cpl.crash {dur seen : TMap} {pend : List Wr} {n : Nat} (h : Cpl dur seen pend n) (j : Nat) (hn : n ≤ 100000) : Cpl (foldW dur (pend.take j)) (foldW dur (pend.take j)) [] n := by
  have hF := Fine.fold (m := dur) (pend.take j) ⟨⟨h.FD.o, h.FD.k, Nat.le_refl _⟩, h.FD.tx⟩ fun w hw => h.wk w (List.mem_of_mem_take hw)
  have hl : dur.length + (pend.take j).length ≤ n := by rw [List.length_take]; have := h.hn; omega
  have hF' := hF.le hl
  have := hF'.n
  exact ⟨⟨hF'.o, hF', fun _ => rfl, by simp; omega⟩, by simp; omega, hF', by simp⟩
theorem refV_ext {m m' : TMap} (h : oneS' m) (h' : oneS' m') (he : ∀ k, getS k m = getS k m') (pend : List Wr) : refV m pend = refV m' pend := by
  unfold refV; rw [entsL_ext h h' he]
theorem readT_ex (n t : List UInt8) : ∃ r b, readT t n r b := by
  by_cases h : ∃ x, soundB x = true ∧ encT x = t ∧ entL x.path = n
  · obtain ⟨x, h1, h2, h3⟩ := h
    exact ⟨x, true, .inl ⟨x, h1, h2, h3, rfl, rfl⟩⟩
  · exact ⟨nil0, false, .inr ⟨fun x h1 h2 h3 => h ⟨x, h1, h2, h3⟩, rfl, rfl⟩⟩
theorem recs_ex {E : List Ent} (h : ascE E) : ∀ i, i ≤ E.length → ∃ l, RecsE (E.take i) l
  | 0, _ => ⟨[], by simpa using RecsE.nil⟩
  | i + 1, hi => by
    obtain ⟨l, hl⟩ := recs_ex h i (by omega)
    obtain ⟨r, b, hr⟩ := readT_ex E[i].1 E[i].2
    have := hl.step (asc_take h (show i < E.length by omega)) hr
    rw [show [(E[i].1, E[i].2)] = [E[i]] from rfl, ← List.take_succ_eq_append_getElem (show i < E.length by omega)] at this
    exact ⟨_, this⟩
theorem all_ex {m : TMap} (ho : oneS' m) : ∃ l, AllOf m l ∧ l.length ≤ (entsL m).length := by
  obtain ⟨l, hl⟩ := recs_ex (ents_asc ho) _ (Nat.le_refl _)
  rw [List.take_length] at hl
  have hok : okP l.toArray := fun x hx => sound_place ((hl.mem x).1 (by simpa using hx)).1
  obtain ⟨h2, h3⟩ := sorted_asc hok hl.ds
  have hsz := (insertionSort_holds swo_ltR l.toArray 0 l.toArray.size (Nat.zero_le _) (Nat.le_refl _)).1.1
  refine ⟨_, ⟨fun r => ?_, h3⟩, ?_⟩
  · rw [h2]
    show r ∈ l ↔ _
    rw [hl.mem, mem_ents ho]
  · rw [Array.length_toList, hsz]
    exact hl.len
theorem All_A (dur seen : TMap) (pend : List Wr) {n : Nat} (hF : Fine seen n) (hn : n ≤ 12) {l : List Rcd} (hl : AllOf seen l) : ACalls Tryz.prog 28 [.ptr 0 0] (dbO dur seen pend) (.imm (l.map rRow)) (dbO dur seen pend) :=
  ((All_c dur seen pend hF hn).mono fun v G ⟨hG, l', hl', hv⟩ => ⟨by rw [hv, hl'.uniq hl], hG⟩).one
theorem renLL_eRq (is : List Nat) (l : List Ent) : renLL is (l.map eRow) = l.map eRow := by
  induction l with
  | nil => rfl
  | cons x r ih => simp [renLL, ih, eRow, renL, ren]
set_option maxRecDepth 20000 in
set_option maxHeartbeats 4000000 in
theorem shows_c {dur seen : TMap} {pend : List Wr} {n : Nat} (h : Cpl dur seen pend n) (hn : n ≤ 12) : ACalls Tryz.prog 40 [.ptr 0 0, refV dur pend] (dbO dur seen pend) (.bool true) (dbO dur seen pend) := by
  obtain ⟨l, hl, hll⟩ := all_ex h.L.F.o
  have cA := All_A dur seen pend h.L.F hn hl
  have cD := Damaged_c dur seen pend h.L.F (by omega)
  have cE := h.L.F.ents (dur := dur) (pend := pend) (by omega)
  have cP := pending_c dur seen pend
  have rA := h.L.all_c hl
  have rD := rDamaged_c h.L
  have rE := h.L.ents_c
  have cT := sameTexts_c (dmgL seen) (dmgL seen)
  have hdl : (dmgL seen).length ≤ 100000 := by
    classical
    have h1 : (dmgL seen).length ≤ (srtK (ksS seen)).length := by unfold dmgL; exact List.length_filter_le _ _
    rw [srtK_len, ksS_len] at h1
    have h2 := ents_len' (m := seen)
    have := h.L.len
    omega
  have cT := cT (by omega) (by omega)
  rw [decide_eq_true rfl] at cT
  have cS := SameEntries_c (entsL seen) h.L.len
  have cR := SameRecords_c l (fun x hx => (small_of ((hl.mem x).1 hx).1).few.fit) (by have := h.L.len; omega)
  unfold dbO dbB mO at cA cD cE cP
  unfold refV at rA rD rE
  unfold entsV at cE cS
  have hec := closedLL_eRows
  have her := renLL_eRq
  have hrr := renLL_rRows
  have hrc := closedLL_rRows
  have hwR := wrR_cl
  have hsr := smK_renS
  have hwr := wRows_ren
  have hcl := wRows_cl
  have hsc : ∀ (m : TMap) (k : Nat) (a b : AV), (a, b) ∈ smK .str m → closed k a = true ∧ closed k b = true := fun m k => smK_clm (k := k) fun _ => rfl
  have hss : ∀ (k : Nat) (l : List (List UInt8)), closedLL k (l.map sRow) = true := fun k l => closedLL_map fun _ _ => rfl
  have hsR := renLL_sRows
  refine acalls_F c40_ok rfl ?_
  unfold c40 dbO dbB mO refV
  generalize entsL seen = E at cE rE cS
  generalize dmgL seen = L at cD rD cT
  obtain ⟨D, hD⟩ : ∃ D, D = (entsL dur).map eRow := ⟨_, rfl⟩
  have hDc : ∀ k, closedLL k D = true := fun k => hD ▸ hec k _
  have hDr : ∀ is, renLL is D = D := fun is => hD ▸ her is _
  rw [← hD] at rA rD rE ⊢
  clear hD
  simp +decide -dsimp -implicitDefEqProofs [go_sem]
  refine callDE_frame [0, 1, 2, 3] cA rfl rfl (by simp) (by simp +decide -dsimp -implicitDefEqProofs [go_sem]) (by simp +decide -dsimp -implicitDefEqProofs [go_sem, hsr, hwr]) ?_
  simp +decide -dsimp -implicitDefEqProofs [go_sem, hsr, hwr, hrr]
  refine callDE_pure rA (by simp +decide -dsimp -implicitDefEqProofs [go_sem, hDc, hwR]) (by simp +decide -dsimp -implicitDefEqProofs [go_sem, hrc]) ?_
  simp +decide -dsimp -implicitDefEqProofs [go_sem]
  refine callDE_pure cR (by simp +decide -dsimp -implicitDefEqProofs [go_sem, hrc]) rfl ?_
  simp +decide -dsimp -implicitDefEqProofs [go_sem]
  refine callDE_frame [0, 1, 2, 3] cD rfl rfl (by simp) (by simp +decide -dsimp -implicitDefEqProofs [go_sem]) (by simp +decide -dsimp -implicitDefEqProofs [go_sem, hsr, hwr]) ?_
  simp +decide -dsimp -implicitDefEqProofs [go_sem, hsr, hwr, hsR]
  refine callDE_pure rD (by simp +decide -dsimp -implicitDefEqProofs [go_sem, hDc, hwR]) (by simp +decide -dsimp -implicitDefEqProofs [go_sem, hss]) ?_
  simp +decide -dsimp -implicitDefEqProofs [go_sem]
  refine callDE_pure cT (by simp +decide -dsimp -implicitDefEqProofs [go_sem, hss]) rfl ?_
  simp +decide -dsimp -implicitDefEqProofs [go_sem]
  refine callDE_frame [0, 1, 2, 3] cE rfl rfl (by simp) (by simp +decide -dsimp -implicitDefEqProofs [go_sem]) (by simp +decide -dsimp -implicitDefEqProofs [go_sem, hsr, hwr]) ?_
  simp +decide -dsimp -implicitDefEqProofs [go_sem, hsr, hwr, her]
  refine callDE_pure rE (by simp +decide -dsimp -implicitDefEqProofs [go_sem, hDc, hwR]) (by simp +decide -dsimp -implicitDefEqProofs [go_sem, hec]) ?_
  simp +decide -dsimp -implicitDefEqProofs [go_sem]
  refine callDE_pure cS (by simp +decide -dsimp -implicitDefEqProofs [go_sem, hec]) rfl ?_
  simp +decide -dsimp -implicitDefEqProofs [go_sem]
  refine callDE_frame [0, 1, 2, 3] cP rfl rfl (by simp) (by simp +decide -dsimp -implicitDefEqProofs [go_sem]) (by simp +decide -dsimp -implicitDefEqProofs [go_sem, hsr, hwr]) ?_
  simp +decide -dsimp -implicitDefEqProofs [go_sem, hsr, hwr, hcl]
  (repeat' apply And.intro) <;> first | exact hsc _ _ | exact hcl _ _ | rfl
end Go.Ab
