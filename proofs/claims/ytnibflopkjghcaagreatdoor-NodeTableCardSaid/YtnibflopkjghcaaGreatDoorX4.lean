/- The names of nodes; the links of records. -/
import Derived.Test.YtnibflopkjghcaaGreatDoorX3
import Derived.Test.YtnibflopkjghcaaGreatDoorRA
import Derived.Test.YtnibflopkjghcaaGreatDoorW1
namespace Go.Ab
open Go Go.Proofs Go.Sort
set_option maxRecDepth 20000
set_option maxHeartbeats 4000000 in
theorem names_c (l : List Nd) (hl : l.length ≤ 100000) : ACalls Tryz.prog 20 [.imm (l.map ndRow)] [] (.imm ((nmN l).map sRow)) [] := by
  have hnl := fun k (l : List Nd) => ndRows_cl k l
  have c5 := sort_c (l.map (·.name)) (by rw [List.length_map]; omega)
  have c6 := compact_c (srtT (l.map (·.name))) (by rw [srtT_len, List.length_map]; omega)
  rw [srtT_len, compact_set] at c6
  unfold nmN
  refine acalls_A c20_ok rfl ?_
  unfold c20
  refine awp_cut ⟨tmps 22 [(0, .imm (l.map ndRow))], []⟩ (awp_of ?_) ?_
  · simp +decide -dsimp -implicitDefEqProofs [go_sem]
    refine cut_of (by simp) ?_
    simp +decide -dsimp -implicitDefEqProofs [go_sem, hnl]
  refine awp_cut ⟨tmps 22 [(0, .imm (l.map ndRow)), (3, .own 0 0)], [.reg 9 1 []]⟩ (awp_of ?_) ?_
  · simp +decide -dsimp -implicitDefEqProofs [go_sem]
    refine (Wk.nilT 3 9 1 rfl (by simp)).trans (cut_of (by simp) ?_)
    simp +decide -dsimp -implicitDefEqProofs [go_sem, hnl]
  refine awp_of ?_
  simp +decide -dsimp -implicitDefEqProofs [go_sem]
  refine loop_of (S := Nat) (fun i => ⟨tmps 22 [(3, .own 0 i), (6, .imm (l.map ndRow)), (7, .int .i64 l.length), (8, .int .i64 i)], [.reg 9 1 (((l.map (·.name)).take i).map sRow)]⟩) (fun i => l.length - i) (fun i => i ≤ l.length) 0 (by simp) (cut_of (by simp) ?_) ?_
  · simp +decide -dsimp -implicitDefEqProofs [go_sem, hnl]
  intro i hi
  by_cases h : i < l.length
  · have wi : IntKind.i64.wrap ((i : Int) + 1) = i + 1 := w64 (by omega) (by omega)
    have ht : (l.map (·.name)).take (i + 1) = (l.map (·.name)).take i ++ [l[i].name] := by
      rw [List.take_succ_eq_append_getElem (by simpa using h), List.getElem_map]
    have hlen : ((l.map (·.name)).take i).length = i := by rw [List.length_take, List.length_map]; omega
    have hcs : ∀ k, closedLL k (((l.map (·.name)).take (i + 1)).map sRow) = true := fun k => closedLL_sRows k _
    generalize hO' : (l.map (·.name)).take (i + 1) = O' at ht hcs
    generalize (l.map (·.name)).take i = O at ht hlen
    have ha : O.map sRow ++ [[.str l[i].name]] = O'.map sRow := by rw [ht]; simp [sRow]
    subst hlen
    simp +decide -dsimp -implicitDefEqProofs [go_sem, h, ndRow_eq, maxLen, wi]
    refine ⟨⟨by omega, by omega⟩, ?_⟩
    rw [ha]
    refine next_of (O.length + 1) (by show O.length + 1 ≤ l.length; omega) (by show l.length - (O.length + 1) < l.length - O.length; omega) (cut_of (by simp) ?_)
    rw [hO']
    simp +decide -dsimp -implicitDefEqProofs [go_sem, hnl, hcs]
  · have e : i = l.length := by omega
    subst e
    rw [List.take_of_length_le (by simp)]
    have hll : (l.map (·.name)).length = l.length := List.length_map ..
    rw [hll] at c5 c6
    generalize l.map (·.name) = X at c5 c6
    simp +decide -dsimp -implicitDefEqProofs [go_sem]
    refine callE_frame [0] c5 rfl rfl (by simp) (by simp +decide -dsimp -implicitDefEqProofs [go_sem]) (by simp +decide -dsimp -implicitDefEqProofs [go_sem]) ?_
    simp +decide -dsimp -implicitDefEqProofs [go_sem]
    refine callE_frame [0] c6 rfl rfl (by simp) (by simp +decide -dsimp -implicitDefEqProofs [go_sem]) (by simp +decide -dsimp -implicitDefEqProofs [go_sem]) ?_
    simp +decide -dsimp -implicitDefEqProofs [go_sem]
end Go.Ab
namespace Go.Ab
open Go Go.Proofs Go.Sort
set_option maxRecDepth 20000
structure Nok (T : List Dvc) (rs : List Rcd) : Prop where
  t : TreeOk Fine T
  r : RecsOk T rs
  tl : T.length ≤ 100
  rl : rs.length ≤ 100
def rsv (N : List Txt) (C : List Cl) : List Lk := refR ltP (opn N C) (opn N C)
def lnkN (T : List Dvc) (rs : List Rcd) : List Lk := rsv (nmN (mkN T rs)) (mkC T rs)
section
variable {T : List Dvc} {rs : List Rcd}
theorem Nok.S (h : Nok T rs) : ∀ d ∈ T, d.orig ∈ oS := fun d hd => (h.t.dv d hd).o
theorem Nok.B (h : Nok T rs) : ∀ r ∈ rs, r.links.length ≤ 16 := fun r hr => by
  have := h.r.r r hr
  have := links_len this.la this.ls
  omega
theorem Nok.mkc (h : Nok T rs) : ACalls Tryz.prog 13 [.agg [.imm (T.map dcRow)], .imm (rs.map rcRow)] [] (.imm ((mkN T rs).map ndRow)) [] := make_c T rs h.S h.tl h.rl h.r.nd
theorem Nok.rmk (h : Nok T rs) : ACalls Tryz.prog 14 [.agg [.imm (T.map dcRow)], .imm (rs.map rcRow)] [] (.imm ((mkN T rs).map ndRow)) [] := rMake_c T rs h.S h.tl h.rl
theorem Nok.clc (h : Nok T rs) : ACalls Tryz.prog 16 [.agg [.imm (T.map dcRow)], .imm (rs.map rcRow)] [] (.imm ((mkC T rs).map clRow)) [] := claims_c T rs h.S h.tl h.rl h.r.nd h.B
theorem Nok.rcl (h : Nok T rs) : ACalls Tryz.prog 17 [.agg [.imm (T.map dcRow)], .imm (rs.map rcRow)] [] (.imm ((mkC T rs).map clRow)) [] := rClaims_c T rs h.S h.tl h.rl h.B
theorem Nok.nl (h : Nok T rs) : (mkN T rs).length ≤ 100 := by
  have := mkN_len (T := T) (rs := rs)
  have := h.tl
  omega
theorem Nok.cn (h : Nok T rs) : (mkC T rs).length ≤ 700 := by
  have := mkC_len (T := T) h.r
  have := h.tl
  omega
theorem nmN_mem {l : List Nd} {x : Txt} : x ∈ nmN l ↔ ∃ n ∈ l, n.name = x := by
  rw [nmN, (setT_ok _).2, List.mem_map]
theorem nmN_len (l : List Nd) : (nmN l).length ≤ l.length := by
  have := setT_len (l.map (·.name))
  rwa [List.length_map] at this
theorem mkN_name (h : Nok T rs) : ∀ n ∈ mkN T rs, n.name.length ≤ 9 := fun n hn => by
  obtain ⟨d, hd, hn⟩ := List.mem_flatMap.1 hn
  unfold ndOf at hn
  split at hn
  · rename_i s r h1 h2
    rw [List.mem_singleton.1 hn]
    exact nodeD_len (h.S d hd) h1
  · cases hn
theorem lk_len : ∀ x ∈ lkS, x.length ≤ 6 := by decide
theorem Nok.okc (h : Nok T rs) : okCl placeB (mkC T rs) := mkC_ok h.t (fun _d hd => hd.o) h.r
theorem Nok.len (h : Nok T rs) : (lnkN T rs).length ≤ 7 := by
  have hr := refR_ok pord (h.okc.sub (O' := opn (nmN (mkN T rs)) (mkC T rs)) List.filter_sublist)
  have h1 : ((lnkN T rs).map (·.name)).Nodup := by
    unfold List.Nodup
    rw [List.pairwise_map]
    exact hr.asc.imp (S := fun a b => a.name ≠ b.name) fun {a b} h e => by rw [e] at h; exact List.lt_irrefl _ h
  have h2 := nodup_sub h1 (U := lkS) fun x hx => by
    obtain ⟨y, hy, rfl⟩ := List.mem_map.1 hx
    obtain ⟨c, hc, rfl, _⟩ := (hr.mem y).1 hy
    exact mkC_u h.r c (List.mem_filter.1 hc.1).1
  rw [List.length_map] at h2
  exact h2
theorem Nok.res (h : Nok T rs) : ACalls Tryz.prog 48 [.imm ((nmN (mkN T rs)).map sRow), .imm ((mkC T rs).map clRow)] [] (.imm ((lnkN T rs).map lkRow)) [] :=
  Resolve_c _ _ h.okc (by have := nmN_len (mkN T rs); have := h.nl; omega) (fun x hx => by
    obtain ⟨n, hn, rfl⟩ := nmN_mem.1 hx
    have := mkN_name h n hn; omega) (by have := h.cn; omega) (fun c hc => by have := lk_len _ (mkC_u h.r c hc); omega) (Nat.le_trans h.len (by decide))
theorem links_c (h : Nok T rs) : ACalls Tryz.prog 23 [.agg [.imm (T.map dcRow)], .imm (rs.map rcRow)] [] (.imm ((lnkN T rs).map lkRow)) [] := by
  have hcl := fun k (T : List Dvc) => dcRows_cl k T
  have hrl := fun k (l : List Rcd) => rcRows_cl k l
  have hnl := fun k (l : List Nd) => ndRows_cl k l
  have hcc := closedLL_clRows
  have hlc := closedLL_lkRows
  have c1 := h.mkc
  have c2 := names_c (mkN T rs) (by have := h.nl; omega)
  have c3 := h.clc
  have c4 := h.res
  refine acalls_F c23_ok rfl ?_
  unfold c23
  simp +decide -dsimp -implicitDefEqProofs [go_sem]
  refine callDE_pure c1 (by simp +decide -dsimp -implicitDefEqProofs [go_sem, hcl, hrl]) (by simp +decide -dsimp -implicitDefEqProofs [go_sem, hnl]) ?_
  simp +decide -dsimp -implicitDefEqProofs [go_sem]
  refine callDE_pure c2 (by simp +decide -dsimp -implicitDefEqProofs [go_sem, hnl]) (by simp +decide -dsimp -implicitDefEqProofs [go_sem]) ?_
  simp +decide -dsimp -implicitDefEqProofs [go_sem]
  refine callDE_pure c3 (by simp +decide -dsimp -implicitDefEqProofs [go_sem, hcl, hrl]) (by simp +decide -dsimp -implicitDefEqProofs [go_sem, hcc]) ?_
  simp +decide -dsimp -implicitDefEqProofs [go_sem]
  refine callDE_pure c4 (by simp +decide -dsimp -implicitDefEqProofs [go_sem, hcc]) (by simp +decide -dsimp -implicitDefEqProofs [go_sem, hlc]) ?_
  simp +decide -dsimp -implicitDefEqProofs [go_sem, hlc]
end
end Go.Ab
namespace Go.Ab
open Go Go.Proofs Go.Sort
mutual
def nz : AV → AV
  | .nils => .imm []
  | .imm l => .imm (nzLL l)
  | .agg cs => .agg (nzL cs)
  | a => a
def nzL : List AV → List AV
  | [] => []
  | a :: r => nz a :: nzL r
def nzLL : List (List AV) → List (List AV)
  | [] => []
  | a :: r => nzL a :: nzLL r
end
theorem nzL_len : ∀ l : List AV, (nzL l).length = l.length
  | [] => rfl
  | a :: r => by simp [nzL, nzL_len r]
theorem nzLL_len : ∀ l : List (List AV), (nzLL l).length = l.length
  | [] => rfl
  | a :: r => by simp [nzLL, nzLL_len r]
mutual
theorem Val_nz {c : Cx} : ∀ (a : AV) (v : Value), Val c a v → Val c (nz a) v
  | .nils, v, h => by
    simp only [Val] at h
    simp only [nz, Val]
    exact .inr ⟨trivial, _, _, h⟩
  | .imm l, v, h => by
    simp only [Val] at h
    simp only [nz, Val, nzLL_len]
    rcases h with ⟨b, off, cap, sz, h1, h2, h3, h4⟩ | ⟨rfl, h⟩
    · exact .inl ⟨b, off, cap, sz, h1, h2, h3, Rows_nz l b off sz h4⟩
    · exact .inr ⟨rfl, h⟩
  | .agg cs, v, h => by
    simp only [Val] at h
    simp only [nz, Val]
    obtain ⟨vs, h1, h2, h3⟩ := h
    exact ⟨vs, h1, Vals_nz cs _ h2, h3⟩
  | .junk, _, h | .bot, _, h | .int _ _, _, h | .bool _, _, h | .str _, _, h | .nilp, _, h | .ptr _ _, _, h | .eptr _ _ _ _, _, h | .iptr _, _, h | .own _ _, _, h | .nilm, _, h | .map _, _, h | .nilf, _, h | .fn _ _ _, _, h | .tup _, _, h | .raw _, _, h | .ifc, _, h | .win _ _ _, _, h | .it _, _, h | .pre _ _ _ _, _, h | .ifv _ _, _, h => h
theorem Vals_nz {c : Cx} : ∀ (xs : List AV) (vs : List Value), Vals c xs vs → Vals c (nzL xs) vs
  | [], _, h => h
  | a :: r, vs, h => by
    simp only [Vals] at h
    simp only [nzL, Vals]
    obtain ⟨v, vs', h1, h2, h3⟩ := h
    exact ⟨v, vs', h1, Val_nz a v h2, Vals_nz r vs' h3⟩
theorem Cells_nz {c : Cx} : ∀ (xs : List AV) (b off : Nat), Cells c xs b off → Cells c (nzL xs) b off
  | [], _, _, h => h
  | a :: r, b, off, h => by
    simp only [Cells] at h
    simp only [nzL, Cells]
    obtain ⟨⟨v, h1, h2, h3⟩, h4⟩ := h
    exact ⟨⟨v, h1, h2, Val_nz a v h3⟩, Cells_nz r b _ h4⟩
theorem Rows_nz {c : Cx} : ∀ (l : List (List AV)) (b off sz : Nat), RowsAt c l b off sz → RowsAt c (nzLL l) b off sz
  | [], _, _, _, h => h
  | r :: rs, b, off, sz, h => by
    simp only [RowsAt] at h
    simp only [nzLL, RowsAt, nzL_len]
    exact ⟨h.1, Cells_nz r b off h.2.1, Rows_nz rs b _ sz h.2.2⟩
end
theorem ACalls.nz {P : Program} {f : Nat} {xs : List AV} {av : AV} {H H' : List AObj} (h : ACalls P f (nzL xs) H av H') : ACalls P f xs H av H' :=
  ⟨h.1, fun c vs hH hr hv => h.2 c vs hH hr (Vals_nz xs vs hv)⟩
end Go.Ab
namespace Go.Ab
open Go Go.Proofs Go.Sort
set_option maxRecDepth 20000
section
variable {T : List Dvc} {rs : List Rcd}
def ownF (N : List Nd) (L : List Lk) (s : Txt) : Option Txt := match N.find? (fun n => decide (n.name = s)) with
  | some n => some n.path
  | none => (L.find? fun x => decide (x.name = s)).map (·.path)
def ownR (N : List Nd) (L : List Lk) (s : Txt) : AV := match ownF N L s with
  | some p => .tup [.str p, .bool true]
  | none => .tup [.str [], .bool false]
theorem lkRow_eq (x : Lk) : lkRow x = [.str x.name, .str x.node, .str x.path] := rfl
set_option maxHeartbeats 8000000 in
theorem owner_c (h : Nok T rs) (s : Txt) : ACalls Tryz.prog 26 [.agg [.imm (T.map dcRow)], .imm (rs.map rcRow), .str s] [] (ownR (mkN T rs) (lnkN T rs) s) [] := by
  have hcl := fun k (T : List Dvc) => dcRows_cl k T
  have hrl := fun k (l : List Rcd) => rcRows_cl k l
  have hnl := fun k (l : List Nd) => ndRows_cl k l
  have hlc := closedLL_lkRows
  have c1 := h.mkc
  have c2 := links_c h
  have l1 := h.nl
  have l2 := h.len
  generalize mkN T rs = N at c1 l1
  generalize lnkN T rs = L at c2 l2
  refine acalls_A c26_ok rfl ?_
  unfold c26
  refine awp_cut ⟨tmps 42 [(1, .imm (rs.map rcRow)), (2, .str s), (3, .ptr 0 0)], [.box 28 [.imm (T.map dcRow)]]⟩ (awp_of ?_) ?_
  · simp +decide -dsimp -implicitDefEqProofs [go_sem]
    refine cut_of (by simp) ?_
    simp +decide -dsimp -implicitDefEqProofs [go_sem, hcl, hrl]
  cases hf : N.find? (fun n => decide (n.name = s)) with
  | some n =>
    have hR : ownR N L s = .tup [.str n.path, .bool true] := by unfold ownR ownF; rw [hf]
    rw [hR]
    obtain ⟨hp, i0, hi0, hn0, hlt⟩ := List.find?_eq_some_iff_getElem.1 hf
    refine awp_of ?_
    simp +decide -dsimp -implicitDefEqProofs [go_sem]
    refine callE_pure c1 (by simp +decide -dsimp -implicitDefEqProofs [go_sem, hcl, hrl]) (by simp +decide -dsimp -implicitDefEqProofs [go_sem, hnl]) ?_
    simp +decide -dsimp -implicitDefEqProofs [go_sem]
    refine loop_of (S := Nat) (fun i => ⟨tmps 42 [(1, .imm (rs.map rcRow)), (2, .str s), (3, .ptr 0 0), (14, .imm (N.map ndRow)), (15, .int .i64 N.length), (16, .int .i64 i)], [.box 28 [.imm (T.map dcRow)]]⟩) (fun i => N.length - i) (fun i => i ≤ i0) 0 (by simp) (cut_of (by simp) ?_) ?_
    · simp +decide -dsimp -implicitDefEqProofs [go_sem, hcl, hrl, hnl]
    intro i hi
    have h1 : i < N.length := by omega
    have wi : IntKind.i64.wrap ((i : Int) + 1) = i + 1 := w64 (by omega) (by omega)
    by_cases he : i = i0
    · subst he
      have hnm : N[i].name = s := by rw [hn0]; simpa using hp
      simp +decide -dsimp -implicitDefEqProofs [go_sem, h1, ndRow_eq, hnm]
      rw [hn0]
    · have hnm : ¬ N[i].name = s := by have := hlt i (by omega); simpa using this
      simp +decide -dsimp -implicitDefEqProofs [go_sem, h1, ndRow_eq, hnm, wi]
      refine next_of (i + 1) (by show i + 1 ≤ i0; omega) (by show N.length - (i + 1) < N.length - i; omega) (cut_of (by simp) ?_)
      simp +decide -dsimp -implicitDefEqProofs [go_sem, hcl, hrl, hnl]
  | none =>
    have hno : ∀ n ∈ N, ¬ n.name = s := fun n hn => by simpa using List.find?_eq_none.1 hf n hn
    refine awp_cut ⟨tmps 42 [(1, .imm (rs.map rcRow)), (2, .str s), (3, .ptr 0 0)], [.box 28 [.imm (T.map dcRow)]]⟩ (awp_of ?_) ?_
    · simp +decide -dsimp -implicitDefEqProofs [go_sem]
      refine callE_pure c1 (by simp +decide -dsimp -implicitDefEqProofs [go_sem, hcl, hrl]) (by simp +decide -dsimp -implicitDefEqProofs [go_sem, hnl]) ?_
      simp +decide -dsimp -implicitDefEqProofs [go_sem]
      refine loop_of (S := Nat) (fun i => ⟨tmps 42 [(1, .imm (rs.map rcRow)), (2, .str s), (3, .ptr 0 0), (14, .imm (N.map ndRow)), (15, .int .i64 N.length), (16, .int .i64 i)], [.box 28 [.imm (T.map dcRow)]]⟩) (fun i => N.length - i) (fun i => i ≤ N.length) 0 (by simp) (cut_of (by simp) ?_) ?_
      · simp +decide -dsimp -implicitDefEqProofs [go_sem, hcl, hrl, hnl]
      intro i hi
      by_cases h1 : i < N.length
      · have wi : IntKind.i64.wrap ((i : Int) + 1) = i + 1 := w64 (by omega) (by omega)
        have hnm := hno _ (List.getElem_mem h1)
        simp +decide -dsimp -implicitDefEqProofs [go_sem, h1, ndRow_eq, hnm, wi]
        refine next_of (i + 1) (by show i + 1 ≤ N.length; omega) (by show N.length - (i + 1) < N.length - i; omega) (cut_of (by simp) ?_)
        simp +decide -dsimp -implicitDefEqProofs [go_sem, hcl, hrl, hnl]
      · have e : i = N.length := by omega
        subst e
        simp +decide -dsimp -implicitDefEqProofs [go_sem]
        refine cut_of (by simp) ?_
        simp +decide -dsimp -implicitDefEqProofs [go_sem, hcl, hrl]
    refine awp_of ?_
    simp +decide -dsimp -implicitDefEqProofs [go_sem]
    refine callE_pure c2 (by simp +decide -dsimp -implicitDefEqProofs [go_sem, hcl, hrl]) (by simp +decide -dsimp -implicitDefEqProofs [go_sem, hlc]) ?_
    simp +decide -dsimp -implicitDefEqProofs [go_sem]
    cases hf2 : L.find? (fun x => decide (x.name = s)) with
    | some n =>
      have hR : ownR N L s = .tup [.str n.path, .bool true] := by unfold ownR ownF; rw [hf, hf2]; rfl
      rw [hR]
      obtain ⟨hp, i0, hi0, hn0, hlt⟩ := List.find?_eq_some_iff_getElem.1 hf2
      refine loop_of (S := Nat) (fun i => ⟨tmps 42 [(2, .str s), (29, .imm (L.map lkRow)), (30, .int .i64 L.length), (31, .int .i64 i)], []⟩) (fun i => L.length - i) (fun i => i ≤ i0) 0 (by simp) (cut_of (by simp) ?_) ?_
      · simp +decide -dsimp -implicitDefEqProofs [go_sem, hlc]
      intro i hi
      have h1 : i < L.length := by omega
      have wi : IntKind.i64.wrap ((i : Int) + 1) = i + 1 := w64 (by omega) (by omega)
      by_cases he : i = i0
      · subst he
        have hnm : L[i].name = s := by rw [hn0]; simpa using hp
        simp +decide -dsimp -implicitDefEqProofs [go_sem, h1, lkRow_eq, hnm]
        rw [hn0]
      · have hnm : ¬ L[i].name = s := by have := hlt i (by omega); simpa using this
        simp +decide -dsimp -implicitDefEqProofs [go_sem, h1, lkRow_eq, hnm, wi]
        refine next_of (i + 1) (by show i + 1 ≤ i0; omega) (by show L.length - (i + 1) < L.length - i; omega) (cut_of (by simp) ?_)
        simp +decide -dsimp -implicitDefEqProofs [go_sem, hlc]
    | none =>
      have hR : ownR N L s = .tup [.str [], .bool false] := by unfold ownR ownF; rw [hf, hf2]; rfl
      rw [hR]
      have hno2 : ∀ n ∈ L, ¬ n.name = s := fun n hn => by simpa using List.find?_eq_none.1 hf2 n hn
      refine loop_of (S := Nat) (fun i => ⟨tmps 42 [(2, .str s), (29, .imm (L.map lkRow)), (30, .int .i64 L.length), (31, .int .i64 i)], []⟩) (fun i => L.length - i) (fun i => i ≤ L.length) 0 (by simp) (cut_of (by simp) ?_) ?_
      · simp +decide -dsimp -implicitDefEqProofs [go_sem, hlc]
      intro i hi
      by_cases h1 : i < L.length
      · have wi : IntKind.i64.wrap ((i : Int) + 1) = i + 1 := w64 (by omega) (by omega)
        have hnm := hno2 _ (List.getElem_mem h1)
        simp +decide -dsimp -implicitDefEqProofs [go_sem, h1, lkRow_eq, hnm, wi]
        refine next_of (i + 1) (by show i + 1 ≤ L.length; omega) (by show L.length - (i + 1) < L.length - i; omega) (cut_of (by simp) ?_)
        simp +decide -dsimp -implicitDefEqProofs [go_sem, hlc]
      · have e : i = L.length := by omega
        subst e
        simp +decide -dsimp -implicitDefEqProofs [go_sem]
end
end Go.Ab
namespace Go.Ab
open Go Go.Proofs Go.Sort
set_option maxRecDepth 20000
def T0 : List Dvc := [⟨1, 0, [112, 99, 105, 48], [112, 99, 105, 48], [112, 99, 105], [], [], 1, 0, []⟩, ⟨2, 1, [115, 100, 97], [115, 100, 97], [98, 108, 111, 99, 107], [], [], 2, 8, []⟩, ⟨3, 1, [115, 100, 98], [115, 100, 98], [98, 108, 111, 99, 107], [], [], 2, 9, []⟩]
def rs0 : List Rcd := [⟨[47, 112, 99, 105, 48, 47, 115, 100, 98], 3, [], [], [[100, 105, 115, 107, 47, 97]], [], [], [], 5, [114, 111, 111, 116], [114, 111, 111, 116], 0⟩, ⟨[47, 112, 99, 105, 48, 47, 115, 100, 97], 2, [], [], [[100, 105, 115, 107, 47, 97]], [], [], [], 0, [114, 111, 111, 116], [100, 105, 115, 107], 432⟩]
def rT0 : List (List AV) := [[.int .i64 1, .int .i64 0, .str [112, 99, 105, 48], .str [112, 99, 105, 48], .str [112, 99, 105], .str [], .str [], .int .i64 1, .int .i64 0, .nils], [.int .i64 2, .int .i64 1, .str [115, 100, 97], .str [115, 100, 97], .str [98, 108, 111, 99, 107], .str [], .str [], .int .i64 2, .int .i64 8, .nils], [.int .i64 3, .int .i64 1, .str [115, 100, 98], .str [115, 100, 98], .str [98, 108, 111, 99, 107], .str [], .str [], .int .i64 2, .int .i64 9, .nils]]
def rR0 : List (List AV) := [[.str [47, 112, 99, 105, 48, 47, 115, 100, 98], .int .i64 3, .nils, .nils, .imm [[.str [100, 105, 115, 107, 47, 97]]], .nils, .nils, .str [], .int .i64 5, .str [114, 111, 111, 116], .str [114, 111, 111, 116], .int .i64 0], [.str [47, 112, 99, 105, 48, 47, 115, 100, 97], .int .i64 2, .nils, .nils, .imm [[.str [100, 105, 115, 107, 47, 97]]], .nils, .nils, .str [], .int .i64 0, .str [114, 111, 111, 116], .str [100, 105, 115, 107], .int .i64 432]]
theorem tree0 : TreeOk Fine T0 := by
  refine ⟨by decide, by decide, fun k h1 h2 => ?_, by decide, ?_, ?_, ?_, ?_⟩
  · have h2 : k ≤ 3 := h2
    rcases (show k = 1 ∨ k = 2 ∨ k = 3 by omega) with rfl | rfl | rfl
    · exact ⟨_, List.mem_cons_self .., rfl⟩
    · exact ⟨_, List.mem_cons_of_mem _ (List.mem_cons_self ..), rfl⟩
    · exact ⟨_, List.mem_cons_of_mem _ (List.mem_cons_of_mem _ (List.mem_cons_self ..)), rfl⟩
  · decide +kernel
  · decide +kernel
  · decide +kernel
  · intro d hd
    simp only [T0, List.mem_cons, List.not_mem_nil, or_false] at hd
    rcases hd with rfl | rfl | rfl
    · exact ⟨by decide, by decide, fun h => absurd h (by decide), fun _ => rfl, fun h => absurd h (by decide), fun _ => rfl, by decide, by decide, by decide, .nil, by simp⟩
    · exact ⟨by decide, by decide, fun h => absurd h (by decide), fun _ => rfl, fun _ => ⟨by decide, by decide, by decide⟩, fun h => absurd (.inl rfl) h, by decide, by decide, by decide, .nil, by simp⟩
    · exact ⟨by decide, by decide, fun h => absurd h (by decide), fun _ => rfl, fun _ => ⟨by decide, by decide, by decide⟩, fun h => absurd (.inl rfl) h, by decide, by decide, by decide, .nil, by simp⟩
theorem recs0 : RecsOk T0 rs0 := by
  refine ⟨by decide, fun r hr => ?_⟩
  simp only [rs0, List.mem_cons, List.not_mem_nil, or_false] at hr
  rcases hr with rfl | rfl
  · exact ⟨⟨_, List.mem_cons_of_mem _ (List.mem_cons_of_mem _ (List.mem_cons_self ..)), rfl⟩, by decide +kernel, List.pairwise_singleton .., by decide, by decide⟩
  · exact ⟨⟨_, List.mem_cons_of_mem _ (List.mem_cons_self ..), rfl⟩, by decide +kernel, List.pairwise_singleton .., by decide, by decide⟩
theorem nok0 : Nok T0 rs0 := ⟨tree0, recs0, by decide, by decide⟩
theorem mk0 : (mkN T0 rs0).map ndRow = [[.str [115, 100, 97], .int .i64 2, .int .i64 8, .str [114, 111, 111, 116], .str [100, 105, 115, 107], .int .i64 432, .str [47, 112, 99, 105, 48, 47, 115, 100, 97]], [.str [115, 100, 98], .int .i64 2, .int .i64 9, .str [114, 111, 111, 116], .str [114, 111, 111, 116], .int .i64 0, .str [47, 112, 99, 105, 48, 47, 115, 100, 98]]] := by kernel_rfl
theorem ow1 : ownR (mkN T0 rs0) (lnkN T0 rs0) [100, 105, 115, 107, 47, 97] = .tup [.str [47, 112, 99, 105, 48, 47, 115, 100, 98], .bool true] := by kernel_rfl
theorem ow2 : ownR (mkN T0 rs0) (lnkN T0 rs0) [100, 105, 115, 107] = .tup [.str [], .bool false] := by kernel_rfl
theorem nz0 (x : List AV) (hx : nzL x = x) : nzL (.agg [.imm rT0] :: .imm rR0 :: x) = .agg [.imm (T0.map dcRow)] :: .imm (rs0.map rcRow) :: x := by
  rw [nzL, nzL, hx]; rfl
set_option maxHeartbeats 8000000 in
theorem known_c : ACalls Tryz.prog 18 [] [] (.bool true) [] := by
  have c1 := nok0.mkc
  rw [mk0, ← nz0 [] rfl] at c1
  replace c1 := c1.nz
  have c2 := owner_c nok0 [100, 105, 115, 107, 47, 97]
  rw [ow1, ← nz0 [AV.str [100, 105, 115, 107, 47, 97]] rfl] at c2
  replace c2 := c2.nz
  have c3 := owner_c nok0 [100, 105, 115, 107]
  rw [ow2, ← nz0 [AV.str [100, 105, 115, 107]] rfl] at c3
  replace c3 := c3.nz
  unfold rT0 rR0 at c1 c2 c3
  refine acalls_A c18_ok rfl ?_
  unfold c18
  refine awp_cut ⟨tmps 54 [], []⟩ (awp_of ?_) ?_
  · simp +decide -dsimp -implicitDefEqProofs [go_sem]
    refine cut_of (by simp) ?_
    simp +decide -dsimp -implicitDefEqProofs [go_sem]
  refine awp_cut ⟨tmps 54 [(1, .ptr 0 0)], [.box 28 [.imm rT0]]⟩ (awp_of ?_) ?_
  · simp +decide -dsimp -implicitDefEqProofs [go_sem]
    refine cut_of (by simp) ?_
    simp +decide -dsimp -implicitDefEqProofs [go_sem, rT0]
  refine awp_cut ⟨tmps 54 [(1, .ptr 0 0), (2, .imm rR0)], [.box 28 [.imm rT0]]⟩ (awp_of ?_) ?_
  · simp +decide -dsimp -implicitDefEqProofs [go_sem]
    refine cut_of (by simp) ?_
    simp +decide -dsimp -implicitDefEqProofs [go_sem, rT0, rR0]
  unfold rT0 rR0
  refine awp_of ?_
  simp +decide -dsimp -implicitDefEqProofs [go_sem]
  generalize htv : AV.tup [.str [47, 112, 99, 105, 48, 47, 115, 100, 98], .bool true] = tv at c2
  generalize htw : AV.tup [.str [], .bool false] = tw at c3
  refine callE_pure c1 rfl rfl ?_
  simp +decide -dsimp -implicitDefEqProofs [go_sem]
  refine callE_pure c2 rfl (by rw [← htv]; rfl) ?_
  subst htv
  simp +decide -dsimp -implicitDefEqProofs [go_sem]
  refine callE_pure c3 rfl (by rw [← htw]; rfl) ?_
  subst htw
  simp +decide -dsimp -implicitDefEqProofs [go_sem]
end Go.Ab
namespace Go.Ab
open Go Go.Proofs Go.Sort
def tapeVs (l : List Int) : AV := .imm (l.map fun v => [.int .i64 v])
theorem tape0 (l : List Int) : AObj.box 25 [.imm (l.map fun v => [.int .i64 v]), .int .i64 0] = tapeO l 0 := rfl
theorem nok_of {T : List Dvc} {rs : List Rcd} (hT : TreeOk Fine T) (hl : T.length ≤ 9) (hR : RecsOk T rs) (hr : rs.length ≤ T.length) : Nok T rs := ⟨hT, hR, by omega, by omega⟩
end Go.Ab
