/- The reference of the links: names near each other; the open claims; the place of a path. -/
import Derived.Test.YtnibflopkjghcaaGreatDoorW3
namespace Go.Ab
open Go Go.Proofs Go.Sort
set_option maxRecDepth 20000
theorem rBen_c (a b : Txt) (ha : a.length ≤ 140737488351232) : ACalls Tryz.prog 85 [.str a, .str b] [] (.bool (benB a b)) [] := by
  have c := HasPrefix_c b (a ++ [47]) (by simp; omega)
  refine acalls_F c85_ok rfl ?_
  unfold c85 benB
  simp +decide -dsimp -implicitDefEqProofs [go_sem]
  refine ⟨by omega, ?_⟩
  refine callE_pure c rfl rfl ?_
  simp +decide -dsimp -implicitDefEqProofs [go_sem]
theorem rNear_c (a b : Txt) (ha : a.length ≤ 140737488351232) (hb : b.length ≤ 140737488351232) : ACalls Tryz.prog 128 [.str a, .str b] [] (.bool (nearB a b)) [] := by
  have c1 := rBen_c a b ha
  have c2 := rBen_c b a hb
  refine acalls_F c128_ok rfl ?_
  unfold c128 nearB
  by_cases h : a = b
  · simp +decide -dsimp -implicitDefEqProofs [go_sem, h]
  · simp +decide -dsimp -implicitDefEqProofs [go_sem, h]
    refine callE_pure c1 rfl rfl ?_
    cases h1 : benB a b with
    | true => simp +decide -dsimp -implicitDefEqProofs [go_sem, h]
    | false =>
      simp +decide -dsimp -implicitDefEqProofs [go_sem, h]
      refine callE_pure c2 rfl rfl ?_
      simp +decide -dsimp -implicitDefEqProofs [go_sem]
end Go.Ab
namespace Go.Ab
open Go Go.Proofs Go.Sort
set_option maxRecDepth 20000
theorem putS_at {s : Txt} : ∀ {l : List Txt} {i : Nat}, i ≤ l.length → (∀ x ∈ l.take i, x < s) → (∀ h : i < l.length, ¬ l[i] < s) → putS l s = if l[i]? = some s then l else l.take i ++ s :: l.drop i
  | [], 0, _, _, _ => by simp [putS]
  | [], i + 1, h, _, _ => by simp at h
  | x :: r, 0, _, _, h => by
    have h1 : ¬ x < s := h (by simp)
    unfold putS
    by_cases e : x = s
    · subst e; simp [h1]
    · simp [e, h1]
  | x :: r, i + 1, hi, ht, hn => by
    have h1 : x < s := ht x (by simp)
    have hx : x ≠ s := fun e => by subst e; exact List.lt_irrefl _ h1
    have ih := putS_at (s := s) (l := r) (i := i) (by simpa using hi) (fun y hy => ht y (by simp [hy])) (fun h => by have := hn (by simpa using h); simpa using this)
    unfold putS
    simp only [h1, if_true, ih, List.getElem?_cons_succ, List.take_succ_cons, List.drop_succ_cons]
    split <;> simp
set_option maxHeartbeats 4000000 in
theorem put_c (l : List Txt) (s : Txt) (hl : l.length ≤ 100000) : ACalls Tryz.prog 47 [.imm (l.map sRow), .str s] [] (.imm ((putS l s).map sRow)) [] := by
  have hls : ∀ a b : List UInt8, Op.bytesLess a b = decide (a < b) := fun a b => bytesLess_eq a b
  have hrow : ∀ r ∈ l.map sRow, r.length = 1 := fun r hr => by
    obtain ⟨x, _, rfl⟩ := List.mem_map.1 hr; rfl
  have ht : List.take l.length (l.map sRow) = l.map sRow := List.take_of_length_le (by simp)
  refine acalls_F c47_ok rfl ?_
  unfold c47
  simp +decide -dsimp -implicitDefEqProofs [go_sem]
  refine loop_of (S := Nat) (fun i => ⟨tmps 44 [(0, .imm (l.map sRow)), (1, .str s), (5, .int .i64 i)], []⟩) (fun i => l.length - i) (fun i => i ≤ l.length ∧ ∀ x ∈ l.take i, x < s) 0 (by simp) (cut_of (by simp) ?_) ?_
  · simp +decide -dsimp -implicitDefEqProofs [go_sem]
  intro i hi
  by_cases h : i < l.length
  · by_cases h1 : l[i] < s
    · have wi : IntKind.i64.wrap ((i : Int) + 1) = i + 1 := w64 (by omega) (by omega)
      simp +decide -dsimp -implicitDefEqProofs [go_sem, h, hls, h1, wi]
      refine next_of (i + 1) ⟨by omega, fun x hx => ?_⟩ (by omega) (cut_of (by simp) ?_)
      · rw [List.take_succ_eq_append_getElem h] at hx
        rcases List.mem_append.1 hx with hx | hx
        · exact hi.2 x hx
        · simp at hx; subst hx; exact h1
      simp +decide -dsimp -implicitDefEqProofs [go_sem]
    · have hp := putS_at (s := s) hi.1 hi.2 (fun _ => h1)
      by_cases e : l[i] = s
      · rw [if_pos (by rw [List.getElem?_eq_getElem h, e])] at hp
        have hss : ¬ s < s := List.lt_irrefl s
        simp +decide -dsimp -implicitDefEqProofs [go_sem, h, hls, e, hss, hp]
      · rw [if_neg (by rw [List.getElem?_eq_getElem h]; simpa using e)] at hp
        simp +decide -dsimp -implicitDefEqProofs [go_sem, h, hls, h1, e, maxLen]
        refine ⟨hi.1, fun r hr => hrow r (List.mem_of_mem_take hr), ⟨by omega, by omega⟩, ⟨by omega, by omega⟩, hi.1, fun r hr => hrow r (List.mem_of_mem_take (List.mem_of_mem_drop hr)), ⟨by omega, by omega⟩, ?_, ?_⟩
        · rw [hp]; simp; omega
        · rw [hp, ht]; simp [sRow, List.map_take, List.map_drop]
  · have e : i = l.length := by omega
    subst e
    have hp := putS_at (s := s) (Nat.le_refl _) hi.2 (fun h => absurd h (by omega))
    rw [if_neg (by simp)] at hp
    simp +decide -dsimp -implicitDefEqProofs [go_sem, maxLen]
    rw [ht]
    refine ⟨hrow, ⟨by omega, by omega⟩, ⟨by omega, by omega⟩, ?_, ?_⟩
    · rw [hp]; simp
    · rw [hp]; simp [sRow]
end Go.Ab
namespace Go.Ab
open Go Go.Proofs Go.Sort
set_option maxRecDepth 20000
theorem dvRows_cl (k : Nat) (w : List Dv) : closedLL k (w.map dvRow) = true := closedLL_map fun x _ => by
  have := closedLL_sRows k x.2.links
  unfold sRow at this
  simp [dvRow, closedL, closed, this]
theorem setT_take {l : List Txt} {i : Nat} (h : i < l.length) : setT (l.take (i + 1)) = putS (setT (l.take i)) l[i] := by
  rw [List.take_succ_eq_append_getElem h, setT_snoc]
theorem setT_len (l : List Txt) : (setT l).length ≤ l.length := nodup_sub (asc_nd (setT_ok l).1) fun x hx => ((setT_ok l).2 x).1 hx
theorem Wk.nilI {k : Nat} {T : List AV} {H : List AObj} (n : Nat) (hn : T[n]? = some .nils) : Wk k ⟨T, H⟩ ⟨T.set n (.imm []), H⟩ := fun c a hr hH hF => ⟨c, rfl, hr, .refl k c, hH, by
  refine ⟨by simpa using hF.1, hF.2.1, fun j => ?_⟩
  by_cases hj : n = j
  · subst hj
    have hlt := (List.getElem?_eq_some_iff.1 hn).1
    have hv := hF.2.2 n
    simp only [hn, Option.getD_some, Val] at hv
    rw [List.getElem?_set_self hlt, Option.getD_some, hv]
    simp only [Val]
    exact .inr ⟨trivial, _, _, rfl⟩
  · rw [List.getElem?_set_ne hj]; exact hF.2.2 j⟩
end Go.Ab
namespace Go.Ab
open Go Go.Proofs Go.Sort
set_option maxRecDepth 20000
theorem rBetter_c (a b : Cl) (ha : placeB a.path = true) (hb : placeB b.path = true) : ACalls Tryz.prog 84 [.agg (clRow a), .agg (clRow b)] [] (.bool (betB ltP a b)) [] := by
  have c := Order_c _ _ ha hb
  refine acalls_F c84_ok rfl ?_
  unfold c84 clRow betB
  by_cases h1 : a.prio > b.prio
  · have h2 : b.prio < a.prio := h1
    simp +decide -dsimp -implicitDefEqProofs [go_sem, h2]
  · have h2 : ¬ b.prio < a.prio := h1
    by_cases h : a.prio = b.prio
    · simp +decide -dsimp -implicitDefEqProofs [go_sem, h]
      refine callE_pure c rfl rfl ?_
      simp +decide -dsimp -implicitDefEqProofs [go_sem, ltP]
    · simp +decide -dsimp -implicitDefEqProofs [go_sem, h, h2]
theorem any_take' {α : Type} {l : List α} {p : α → Bool} {k : Nat} (h : k < l.length) : (l.take (k + 1)).any p = ((l.take k).any p || p l[k]) := by
  rw [List.take_succ_eq_append_getElem h, List.any_append]; simp only [List.any_cons, List.any_nil, Bool.or_false]
set_option maxHeartbeats 4000000 in
theorem rOpen_c (N : List Txt) (C : List Cl) (hN : N.length ≤ 100000) (hC : C.length ≤ 100000) (hn : ∀ x ∈ N, x.length ≤ 140737488351232) (hc : ∀ c ∈ C, c.link.length ≤ 140737488351232) :
    ACalls Tryz.prog 83 [.imm (N.map sRow), .imm (C.map clRow)] [] (.imm ((opn N C).map clRow)) [] := by
  have hlc2 := closedLL_clRows
  have hck : ∀ x : Cl, clRow x = [.str x.link, .str x.path, .str x.node, .int .i64 x.prio] := fun _ => rfl
  obtain ⟨op, hop⟩ : ∃ op : Nat → List Cl, ∀ i, op i = opn N (C.take i) := ⟨_, fun _ => rfl⟩
  have op0 : op 0 = [] := by rw [hop]; rfl
  have opl : ∀ i, (op i).length ≤ 100000 := fun i => by
    rw [hop]
    have := List.length_filter_le (fun c => !voidB N c) (C.take i)
    rw [List.length_take] at this
    unfold opn; omega
  have ops : ∀ (i : Nat) (h : i < C.length), op (i + 1) = op i ++ (if voidB N C[i] = true then [] else [C[i]]) := fun i h => by
    rw [hop, hop, List.take_succ_eq_append_getElem h, opn_snoc]
  have opf : opn N C = op C.length := by rw [hop, List.take_length]
  rw [opf]
  refine acalls_F c83_ok rfl ?_
  unfold c83
  simp +decide -dsimp -implicitDefEqProofs [go_sem]
  refine loop_of (S := Nat) (fun i => ⟨tmps 44 [(0, .imm (N.map sRow)), (1, .imm (C.map clRow)), (5, .own 0 (op i).length), (6, .int .i64 i)], [.reg 84 4 ((op i).map clRow)]⟩) (fun i => C.length - i) (fun i => i ≤ C.length) 0 (by simp) ((Wk.nilT 5 84 4 rfl (by simp)).trans (cut_of (by simp) ?_)) ?_
  · simp +decide -dsimp -implicitDefEqProofs [go_sem, hlc2, op0]
  intro a ha
  by_cases h : a < C.length
  · have wa : IntKind.i64.wrap ((a : Int) + 1) = a + 1 := w64 (by omega) (by omega)
    have hCa : C[a] ∈ C := List.getElem_mem h
    simp +decide -dsimp -implicitDefEqProofs [go_sem, h]
    refine loop_of (S := Nat) (fun k => ⟨tmps 44 [(0, .imm (N.map sRow)), (1, .imm (C.map clRow)), (5, .own 0 (op a).length), (6, .int .i64 a), (7, .bool ((N.take k).any fun n => nearB n C[a].link)), (8, .int .i64 k)], [.reg 84 4 ((op a).map clRow)]⟩) (fun k => N.length - k) (fun k => k ≤ N.length) 0 (by simp) (cut_of (by simp) ?_) ?_
    · simp +decide -dsimp -implicitDefEqProofs [go_sem, hlc2]
    intro b hb
    by_cases h2 : b < N.length
    · have wb : IntKind.i64.wrap ((b : Int) + 1) = b + 1 := w64 (by omega) (by omega)
      have ev := any_take' (p := fun n => nearB n C[a].link) h2
      have cb := rNear_c N[b] C[a].link (hn _ (List.getElem_mem h2)) (hc _ hCa)
      have fin : b + 1 ≤ N.length ∧ N.length - (b + 1) < N.length - b := ⟨by omega, by omega⟩
      cases hv : (N.take b).any (fun n => nearB n C[a].link) with
      | true =>
        rw [hv, Bool.true_or] at ev
        simp +decide -dsimp -implicitDefEqProofs [go_sem, h2, wb]
        refine next_of (b + 1) fin.1 fin.2 (cut_of (by simp) ?_)
        simp +decide -dsimp -implicitDefEqProofs [go_sem, hlc2, ev]
      | false =>
        rw [hv, Bool.false_or] at ev
        simp +decide -dsimp -implicitDefEqProofs [go_sem, h, h2, hck]
        refine callDE_pure cb rfl rfl ?_
        simp +decide -dsimp -implicitDefEqProofs [go_sem, wb]
        refine next_of (b + 1) fin.1 fin.2 (cut_of (by simp) ?_)
        simp +decide -dsimp -implicitDefEqProofs [go_sem, hlc2, ev]
    · have e2 : b = N.length := by omega
      subst e2
      rw [List.take_length]
      have hvd : (N.any fun n => nearB n C[a].link) = voidB N C[a] := rfl
      rw [hvd]
      have os := ops a h
      have ol := opl a
      cases hv : voidB N C[a] with
      | true =>
        rw [hv, if_pos rfl, List.append_nil] at os
        simp +decide -dsimp -implicitDefEqProofs [go_sem, wa]
        refine next_of (a + 1) (by show a + 1 ≤ C.length; omega) (by show C.length - (a + 1) < C.length - a; omega) (cut_of (by simp) ?_)
        simp +decide -dsimp -implicitDefEqProofs [go_sem, hlc2, os]
      | false =>
        rw [hv, if_neg (by decide)] at os
        have om : (op (a + 1)).map clRow = (op a).map clRow ++ [clRow C[a]] := by rw [os, List.map_append]; rfl
        have ol2 : (op (a + 1)).length = (op a).length + 1 := by rw [os]; simp
        rw [hck] at om
        simp +decide -dsimp -implicitDefEqProofs [go_sem, h, hck, maxLen, wa]
        refine ⟨⟨by omega, by omega⟩, ?_⟩
        refine next_of (a + 1) (by show a + 1 ≤ C.length; omega) (by show C.length - (a + 1) < C.length - a; omega) (cut_of (by simp) ?_)
        simp +decide -dsimp -implicitDefEqProofs [go_sem, hlc2, om, ol2]
  · have e : a = C.length := by omega
    subst e
    simp +decide -dsimp -implicitDefEqProofs [go_sem, hlc2]
end Go.Ab
namespace Go.Ab
open Go Go.Proofs Go.Sort
theorem insL_at {x : Lk} : ∀ {l : List Lk} {i : Nat}, i ≤ l.length → (∀ y ∈ l.take i, y.name < x.name) → (∀ h : i < l.length, ¬ l[i].name < x.name) → insL l x = l.take i ++ x :: l.drop i
  | [], 0, _, _, _ => by simp [insL]
  | [], i + 1, h, _, _ => by simp at h
  | y :: r, 0, _, _, h => by
    have h1 : ¬ y.name < x.name := h (by simp)
    unfold insL; simp [h1]
  | y :: r, i + 1, hi, ht, hn => by
    have h1 : y.name < x.name := ht y (by simp)
    have ih := insL_at (x := x) (l := r) (i := i) (by simpa using hi) (fun z hz => ht z (by simp [hz])) (fun h => by have := hn (by simpa using h); simpa using this)
    unfold insL; simp [h1, ih]
theorem insD_at {d : Dv} : ∀ {l : List Dv} {i : Nat}, i ≤ l.length → (∀ y ∈ l.take i, ltP y.1 d.1 = true) → (∀ h : i < l.length, ltP l[i].1 d.1 = false) → insD ltP l d = l.take i ++ d :: l.drop i
  | [], 0, _, _, _ => by simp [insD]
  | [], i + 1, h, _, _ => by simp at h
  | y :: r, 0, _, _, h => by
    have h1 : ltP y.1 d.1 = false := h (by simp)
    unfold insD; simp [h1]
  | y :: r, i + 1, hi, ht, hn => by
    have h1 : ltP y.1 d.1 = true := ht y (by simp)
    have ih := insD_at (d := d) (l := r) (i := i) (by simpa using hi) (fun z hz => ht z (by simp [hz])) (fun h => by have := hn (by simpa using h); simpa using this)
    unfold insD; simp [h1, ih]
end Go.Ab
namespace Go.Ab
open Go Go.Proofs Go.Sort
set_option maxRecDepth 20000
theorem insL_len (x : Lk) : ∀ l : List Lk, (insL l x).length = l.length + 1
  | [] => rfl
  | y :: r => by
    unfold insL
    split
    · simp [insL_len x r]
    · simp
theorem refR_len (O : List Cl) {l : List Cl} : ∀ i, i ≤ l.length → (refR ltP O (l.take i)).length ≤ i
  | 0, _ => by simp [refR]
  | i + 1, h => by
    have ih := refR_len O (l := l) i (by omega)
    rw [List.take_succ_eq_append_getElem (by omega), refR_snoc]
    split
    · rw [insL_len]; omega
    · omega
set_option maxHeartbeats 8000000 in
theorem rResolve_c (N : List Txt) (C : List Cl) (hN : N.length ≤ 100000) (hC : C.length ≤ 100000) (hn : ∀ x ∈ N, x.length ≤ 140737488351232) (hc : ∀ c ∈ C, c.link.length ≤ 140737488351232) (hp : ∀ c ∈ C, placeB c.path = true) :
    ACalls Tryz.prog 49 [.imm (N.map sRow), .imm (C.map clRow)] [] (.imm ((refR ltP (opn N C) (opn N C)).map lkRow)) [] := by
  have hcc := closedLL_clRows
  have hlc := closedLL_lkRows
  have hls : ∀ a b : List UInt8, Op.bytesLess a b = decide (a < b) := fun a b => bytesLess_eq a b
  have hck : ∀ x : Cl, clRow x = [.str x.link, .str x.path, .str x.node, .int .i64 x.prio] := fun _ => rfl
  have hlk : ∀ x : Lk, lkRow x = [.str x.name, .str x.node, .str x.path] := fun _ => rfl
  have cO := rOpen_c N C hN hC hn hc
  have hOl : (opn N C).length ≤ 100000 := Nat.le_trans (List.length_filter_le _ _) hC
  have hOc : ∀ c ∈ opn N C, c.link.length ≤ 140737488351232 := fun c h => hc c (List.mem_filter.1 h).1
  have hOp : ∀ c ∈ opn N C, placeB c.path = true := fun c h => hp c (List.mem_filter.1 h).1
  generalize opn N C = O at cO hOl hOc hOp
  refine acalls_F c49_ok rfl ?_
  unfold c49
  simp +decide -dsimp -implicitDefEqProofs [go_sem]
  refine callE_pure cO (by simp +decide -dsimp -implicitDefEqProofs [go_sem, hcc]) (by simp +decide -dsimp -implicitDefEqProofs [go_sem, hcc]) ?_
  simp +decide -dsimp -implicitDefEqProofs [go_sem]
  refine loop_of (S := Nat) (fun i => ⟨tmps 111 [(5, .imm (O.map clRow)), (6, .imm ((refR ltP O (O.take i)).map lkRow)), (7, .int .i64 i)], []⟩) (fun i => O.length - i) (fun i => i ≤ O.length) 0 (by simp) ((Wk.nilI 6 rfl).trans (cut_of (by simp) ?_)) ?_
  · simp +decide -dsimp -implicitDefEqProofs [go_sem, hcc, show refR ltP O [] = [] from rfl]
  intro i hi
  by_cases h : i < O.length
  · have wa : IntKind.i64.wrap ((i : Int) + 1) = i + 1 := w64 (by omega) (by omega)
    have hOi : O[i] ∈ O := List.getElem_mem h
    have hsn := refR_snoc (lt := ltP) O (O.take i) O[i]
    rw [← List.take_succ_eq_append_getElem h] at hsn
    have hRl := refR_len O (l := O) i hi
    generalize refR ltP O (O.take i) = R at hsn hRl
    have hrow : ∀ r ∈ R.map lkRow, r.length = 3 := fun r hr => by
      obtain ⟨x, _, rfl⟩ := List.mem_map.1 hr; rfl
    have htR : List.take R.length (R.map lkRow) = R.map lkRow := List.take_of_length_le (by simp)
    simp +decide -dsimp -implicitDefEqProofs [go_sem, h]
    refine loop_of (S := Nat) (fun k => ⟨tmps 111 [(5, .imm (O.map clRow)), (6, .imm (R.map lkRow)), (7, .int .i64 i), (8, .bool (!(O.take k).any fun d => beatB ltP O[i] d)), (9, .int .i64 k)], []⟩) (fun k => O.length - k) (fun k => k ≤ O.length) 0 (by simp) (cut_of (by simp) ?_) ?_
    · simp +decide -dsimp -implicitDefEqProofs [go_sem, hcc, hlc]
    intro k hk
    by_cases h2 : k < O.length
    · have wb : IntKind.i64.wrap ((k : Int) + 1) = k + 1 := w64 (by omega) (by omega)
      have ev := any_take' (p := fun d => beatB ltP O[i] d) h2
      have cb := rBetter_c O[k] O[i] (hOp _ (List.getElem_mem h2)) (hOp _ hOi)
      have cn := rBen_c O[i].link O[k].link (hOc _ hOi)
      rw [hck, hck] at cb
      have fin : k + 1 ≤ O.length ∧ O.length - (k + 1) < O.length - k := ⟨by omega, by omega⟩
      generalize (O.take k).any (fun d => beatB ltP O[i] d) = bs at ev
      by_cases q1 : O[k].link = O[i].link
      · simp +decide -dsimp -implicitDefEqProofs [go_sem, h, h2, hck, q1]
        rw [q1] at cb
        refine callDE_pure cb rfl rfl ?_
        cases hb : betB ltP O[k] O[i] with
        | true =>
          have e1 : beatB ltP O[i] O[k] = true := by simp [beatB, q1, hb]
          rw [e1, Bool.or_true] at ev
          simp +decide -dsimp -implicitDefEqProofs [go_sem, wb]
          refine next_of (k + 1) fin.1 fin.2 (cut_of (by simp) ?_)
          simp +decide -dsimp -implicitDefEqProofs [go_sem, hcc, hlc, ev]
        | false =>
          have e1 : beatB ltP O[i] O[k] = benB O[i].link O[k].link := by simp [beatB, hb]
          rw [e1] at ev
          rw [q1] at cn ev
          simp +decide -dsimp -implicitDefEqProofs [go_sem, h, h2, hck, q1]
          refine callDE_pure cn rfl rfl ?_
          cases hn2 : benB O[i].link O[i].link with
          | true =>
            rw [hn2, Bool.or_true] at ev
            simp +decide -dsimp -implicitDefEqProofs [go_sem, wb]
            refine next_of (k + 1) fin.1 fin.2 (cut_of (by simp) ?_)
            simp +decide -dsimp -implicitDefEqProofs [go_sem, hcc, hlc, ev]
          | false =>
            rw [hn2, Bool.or_false] at ev
            simp +decide -dsimp -implicitDefEqProofs [go_sem, wb]
            refine next_of (k + 1) fin.1 fin.2 (cut_of (by simp) ?_)
            simp +decide -dsimp -implicitDefEqProofs [go_sem, hcc, hlc, ev]
      · simp +decide -dsimp -implicitDefEqProofs [go_sem, h, h2, hck, q1]
        have e1 : beatB ltP O[i] O[k] = benB O[i].link O[k].link := by simp [beatB, q1]
        rw [e1] at ev
        refine callDE_pure cn rfl rfl ?_
        cases hn2 : benB O[i].link O[k].link with
        | true =>
          rw [hn2, Bool.or_true] at ev
          simp +decide -dsimp -implicitDefEqProofs [go_sem, wb]
          refine next_of (k + 1) fin.1 fin.2 (cut_of (by simp) ?_)
          simp +decide -dsimp -implicitDefEqProofs [go_sem, hcc, hlc, ev]
        | false =>
          rw [hn2, Bool.or_false] at ev
          simp +decide -dsimp -implicitDefEqProofs [go_sem, wb]
          refine next_of (k + 1) fin.1 fin.2 (cut_of (by simp) ?_)
          simp +decide -dsimp -implicitDefEqProofs [go_sem, hcc, hlc, ev]
    · have e2 : k = O.length := by omega
      subst e2
      rw [List.take_length]
      have hlb : (!O.any fun d => beatB ltP O[i] d) = leadB ltP O O[i] := rfl
      rw [hlb]
      cases hb : leadB ltP O O[i] with
      | false =>
        rw [hb, if_neg (by decide)] at hsn
        simp +decide -dsimp -implicitDefEqProofs [go_sem, wa]
        refine next_of (i + 1) (by show i + 1 ≤ O.length; omega) (by show O.length - (i + 1) < O.length - i; omega) (cut_of (by simp) ?_)
        rw [hsn]
        simp +decide -dsimp -implicitDefEqProofs [go_sem, hcc, hlc]
      | true =>
        rw [hb, if_pos rfl] at hsn
        simp +decide -dsimp -implicitDefEqProofs [go_sem]
        refine loop_of (S := Nat) (fun n => ⟨tmps 111 [(5, .imm (O.map clRow)), (6, .imm (R.map lkRow)), (7, .int .i64 i), (10, .int .i64 n)], []⟩) (fun n => R.length - n) (fun n => n ≤ R.length ∧ ∀ y ∈ R.take n, y.name < O[i].link) 0 (by simp) (cut_of (by simp) ?_) ?_
        · simp +decide -dsimp -implicitDefEqProofs [go_sem, hcc, hlc]
        intro n hn3
        by_cases h5 : n < R.length
        · by_cases h6 : R[n].name < O[i].link
          · have wn : IntKind.i64.wrap ((n : Int) + 1) = n + 1 := w64 (by omega) (by omega)
            simp +decide -dsimp -implicitDefEqProofs [go_sem, h, h5, hck, hlk, hls, h6, wn]
            refine next_of (n + 1) ⟨by omega, fun x hx => ?_⟩ (by omega) (cut_of (by simp) ?_)
            · rw [List.take_succ_eq_append_getElem h5] at hx
              rcases List.mem_append.1 hx with hx | hx
              · exact hn3.2 x hx
              · simp at hx; subst hx; exact h6
            simp +decide -dsimp -implicitDefEqProofs [go_sem, hcc, hlc]
          · have hins := insL_at (x := toLk O[i]) hn3.1 hn3.2 (fun _ => h6)
            simp +decide -dsimp -implicitDefEqProofs [go_sem, h, h5, hck, hlk, hls, h6, maxLen]
            refine ⟨hn3.1, fun r hr => hrow r (List.mem_of_mem_take hr), ⟨by omega, by omega⟩, ⟨by omega, by omega⟩, hn3.1, fun r hr => hrow r (List.mem_of_mem_take (List.mem_of_mem_drop hr)), ⟨by omega, by omega⟩, ?_⟩
            have hre : List.take n (R.map lkRow) ++ [.str O[i].link, .str O[i].node, .str O[i].path] :: List.drop n (List.take R.length (R.map lkRow)) = (refR ltP O (O.take (i + 1))).map lkRow := by
              rw [hsn, hins, htR]; simp [lkRow, toLk, List.map_take, List.map_drop]
            have hle : min n R.length + 1 + (R.length - n) = ((refR ltP O (O.take (i + 1))).map lkRow).length := by
              rw [hsn, List.length_map, insL_len]; omega
            rw [hre, hle, wa]
            refine next_of (i + 1) (by show i + 1 ≤ O.length; omega) (by show O.length - (i + 1) < O.length - i; omega) ((Wk.frz 6 1 rfl rfl).trans (cut_of (by simp) ?_))
            simp +decide -dsimp -implicitDefEqProofs [go_sem, hcc, hlc]
        · have e3 : n = R.length := by omega
          have hins := insL_at (x := toLk O[i]) hn3.1 hn3.2 (fun h => absurd h h5)
          subst e3
          simp +decide -dsimp -implicitDefEqProofs [go_sem, h, hck, maxLen]
          rw [htR]
          refine ⟨fun _ _ => rfl, hrow, ⟨by omega, by omega⟩, ⟨by omega, by omega⟩, fun _ _ => rfl, ⟨by omega, by omega⟩, ?_⟩
          have hre : R.map lkRow ++ [[.str O[i].link, .str O[i].node, .str O[i].path]] = (refR ltP O (O.take (i + 1))).map lkRow := by
            rw [hsn, hins]; simp [lkRow, toLk]
          have hle : R.length + 1 = ((refR ltP O (O.take (i + 1))).map lkRow).length := by
            rw [hsn, List.length_map, insL_len]
          rw [hre, hle, wa]
          refine next_of (i + 1) (by show i + 1 ≤ O.length; omega) (by show O.length - (i + 1) < O.length - i; omega) ((Wk.frz 6 1 rfl rfl).trans (cut_of (by simp) ?_))
          simp +decide -dsimp -implicitDefEqProofs [go_sem, hcc, hlc]
  · have e : i = O.length := by omega
    subst e
    rw [List.take_length]
    simp +decide -dsimp -implicitDefEqProofs [go_sem, hlc]
end Go.Ab
