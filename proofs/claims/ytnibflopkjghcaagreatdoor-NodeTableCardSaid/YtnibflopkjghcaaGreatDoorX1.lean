/- Contracts of the library's that trees need. -/
import Derived.Test.YtnibflopkjghcaaGreatDoorN1
import Derived.Test.YtnibflopkjghcaaGreatDoorC3
import Derived.Test.YtnibflopkjghcaaGreatDoorRA
import Derived.Test.YtnibflopkjghcaaGreatDoorW2
namespace Go.Ab
open Go Go.Proofs Go.Sort
theorem joinP_tail : ∀ r : List Txt, joinP r = Lib.joinTail [47] r
  | [] => rfl
  | x :: r => by rw [joinP, joinP_tail r]; rfl
theorem joinP_join {l : List Txt} (h : l ≠ []) : 47 :: Lib.join l [47] = joinP l := by
  cases l with
  | nil => exact absurd rfl h
  | cons x r => rw [joinP, joinP_tail, Lib.join_cons]
theorem joinP_len {B : Nat} : ∀ {l : List Txt}, (∀ x ∈ l, x.length ≤ B) → (joinP l).length ≤ l.length * (B + 1)
  | [], _ => by simp [joinP]
  | x :: r, h => by
    have h1 := h x (by simp)
    have h2 := joinP_len (l := r) fun y hy => h y (by simp [hy])
    rw [joinP, List.length_cons, List.length_append, List.length_cons, Nat.add_mul]
    omega
theorem Join_c (l : List Txt) (h0 : l ≠ []) (hl : l.length ≤ 1000) (hx : ∀ x ∈ l, x.length ≤ 1000) : ACalls Tryz.prog 144 [.imm (l.map sRow), .str [47]] [] (.str (Lib.join l [47])) [] := by
  have hlen := joinP_len hx
  rw [← joinP_join h0, List.length_cons] at hlen
  have hlen2 : l.length * 1001 ≤ 1000 * 1001 := Nat.mul_le_mul_right _ hl
  have hd : ((l.map fun s => (⟨s.toArray⟩ : ByteArray)).map fun b => b.data.toList) = l := by rw [List.map_map]; exact List.map_id l
  refine .of_below (by kernel_rfl) fun cx vs hv hg => ?_
  simp only [Vals, Val] at hv
  obtain ⟨v, vs', rfl, hv1, v2, vs2, rfl, rfl, rfl⟩ := hv
  rcases hv1 with ⟨b, off, cap, sz, rfl, _, hcap, hR⟩ | ⟨he, _⟩
  · rw [RowsAt_iff] at hR
    have hcell : ∀ (j : Nat) x, (l.map fun s => (⟨s.toArray⟩ : ByteArray))[j]? = some x → cx.w.cell? ⟨b, off + j, none⟩ = some (.string x) := fun j x hj => by
      rw [List.getElem?_map] at hj
      cases hs : l[j]? with
      | none => rw [hs] at hj; cases hj
      | some s =>
        rw [hs] at hj
        simp only [Option.map_some, Option.some.injEq] at hj
        subst hj
        obtain ⟨h1, h2⟩ := hR j (sRow s) (by rw [List.getElem?_map, hs]; rfl)
        have h3 : sz = 1 := h1.symm
        subst h3
        obtain ⟨⟨v, h4, _, h5⟩, _⟩ := h2
        simp only [Val] at h5
        subst h5
        rw [Nat.mul_one] at h4
        exact h4
    have hbk : b < cx.w.heap.size := by
      cases l with
      | nil => exact absurd rfl h0
      | cons s r =>
        have h1 := hcell 0 ⟨s.toArray⟩ rfl
        unfold World.cell? at h1
        cases hb : cx.w.heap[b]? with
        | none => simp [hb] at h1
        | some c => exact (Array.getElem?_eq_some_iff.1 hb).1
    have hC := Tryz.strings_Join b off cap (l.map fun s => (⟨s.toArray⟩ : ByteArray)) ⟨#[47]⟩ cx.w hcell hbk (by rw [List.length_map]; omega) (by rw [List.length_map]; simpa using hcap) (by rw [hd]; simpa using (by omega : (Lib.join l [47]).length ≤ 140737488355328))
    rw [List.length_map] at hC
    have e : (List.map sRow l).length = l.length := List.length_map ..
    rw [e]
    refine hC.mono fun e w' hq => ?_
    obtain ⟨rfl, h2⟩ := hq
    refine ⟨_, rfl, h2, fun c' => ?_⟩
    simp only [Val]
    rw [hd]
  · exact absurd (List.map_eq_nil_iff.1 he) h0
theorem rep_o : ∀ x ∈ oS, Lib.replaceAll x [33] [47] = x.map slashB := by decide +kernel
theorem Replace_c (s : Txt) (hs : s ∈ oS) : ACalls Tryz.prog 74 [.str s, .str [33], .str [47]] [] (.str (s.map slashB)) [] := by
  have hl := (oS_v s hs).2.2
  have hr := rep_o s hs
  have hcb : Lib.countB ⟨s.toArray⟩ ⟨#[33]⟩ ≤ 100 := by
    have h1 : ∀ x ∈ oS, Lib.countB ⟨x.toArray⟩ ⟨#[33]⟩ ≤ 100 := by decide +kernel
    exact h1 s hs
  refine .of_below (by kernel_rfl) fun cx vs hv hg => ?_
  simp only [Vals, Val] at hv
  obtain ⟨v, vs', rfl, rfl, v2, vs2, rfl, rfl, v3, vs3, rfl, rfl, rfl⟩ := hv
  obtain ⟨⟨m, hm⟩, _⟩ := hg
  refine (Tryz.strings_ReplaceAll ⟨s.toArray⟩ ⟨#[33]⟩ ⟨#[47]⟩ m cx.w (by show s.length < _; omega) hm (Nat.le_refl 1) (by show s.length + Lib.countB ⟨s.toArray⟩ ⟨#[33]⟩ * 1 ≤ _; omega)).mono fun e w' hq => ?_
  obtain ⟨rfl, h2⟩ := hq
  refine ⟨_, rfl, h2, fun c' => ?_⟩
  simp only [Val]
  rw [← hr]
theorem Itoa_c (n : Nat) (h : n < 100) : ACalls Tryz.prog 110 [.int .i64 n] [] (.str (Lib.decDigits n)) [] := by
  refine .of_below (by kernel_rfl) fun cx vs hv hg => ?_
  simp only [Vals, Val] at hv
  obtain ⟨v, vs', rfl, rfl, rfl⟩ := hv
  refine (Tryz.strconv_Itoa_small n h cx.w).mono fun e w' hq => ?_
  obtain ⟨rfl, rfl⟩ := hq
  exact ⟨_, rfl, Go.RowKit.Below.refl _ _, fun c' => by simp only [Val]⟩
theorem Contains1_c (s : Txt) (c : UInt8) (h : Lib.indexByte s c < 0) : ACalls Tryz.prog 142 [.str s, .str [c]] [] (.bool false) [] := by
  refine .of_below (by kernel_rfl) fun cx vs hv hg => ?_
  simp only [Vals, Val] at hv
  obtain ⟨v, vs', rfl, rfl, v2, vs2, rfl, rfl, rfl⟩ := hv
  refine (Tryz.strings_Contains_one ⟨s.toArray⟩ c cx.w).mono fun e w' hq => ?_
  obtain ⟨rfl, rfl⟩ := hq
  refine ⟨_, rfl, Go.RowKit.Below.refl _ _, fun c' => ?_⟩
  simp only [Val]
  congr 1
  rw [decide_eq_false_iff_not]
  omega
theorem ifS_x : ∀ x ∈ ifS, Lib.indexByte x 58 < 0 ∧ Lib.indexByte x 33 < 0 := by decide +kernel
end Go.Ab
namespace Go.Ab
open Go Go.Proofs Go.Sort
set_option maxRecDepth 20000
theorem aRows_cl (k : Nat) (l : List (Txt × Txt)) : closedLL k (l.map aRow) = true := closedLL_map fun x _ => by simp [aRow, closedL, closed]
theorem renLL_aRows (is : List Nat) (l : List (Txt × Txt)) : renLL is (l.map aRow) = l.map aRow := by
  induction l with
  | nil => rfl
  | cons x r ih => simp [renLL, ih, aRow, renL, ren]
theorem dcRow_cl (k : Nat) (d : Dvc) : closedL k (dcRow d) = true := by simp [dcRow, closedL, closed, aRows_cl]
theorem dcRow_ren (is : List Nat) (d : Dvc) : renL is (dcRow d) = dcRow d := by simp [dcRow, renL, ren, renLL_aRows]
theorem dcRows_cl (k : Nat) (T : List Dvc) : closedLL k (T.map dcRow) = true := closedLL_map fun x _ => dcRow_cl k x
theorem renLL_dcRows (is : List Nat) (l : List Dvc) : renLL is (l.map dcRow) = l.map dcRow := by
  induction l with
  | nil => rfl
  | cons x r ih => simp [renLL, ih, dcRow_ren]
theorem dcRow_eq (d : Dvc) : dcRow d = [.int .i64 d.idx, .int .i64 d.par, .str d.name, .str d.orig, .str d.sub, .str d.drv, .str d.ali, .int .i64 d.kind, .int .i64 d.num, .imm (d.attrs.map aRow)] := rfl
def idxD (T : List Dvc) (n : Int) : Option Nat := T.findIdx? fun d => decide (d.idx = n)
theorem index_c (T : List Dvc) (n : Int) (hl : T.length < 1000000000) : ACalls Tryz.prog 64 [.imm (T.map dcRow), .int .i64 n] [] (.int .i64 (idxI (idxD T n))) [] := by
  have hcl := fun k => dcRows_cl k T
  refine acalls_F c64_ok rfl ?_
  unfold c64 idxD
  simp +decide -dsimp -implicitDefEqProofs [go_sem]
  refine loop_of (S := Nat) (fun i => ⟨tmps 20 [(0, .imm (T.map dcRow)), (1, .int .i64 n), (5, .int .i64 i)], []⟩) (fun i => T.length - i) (fun i => i ≤ T.length ∧ ∀ x ∈ T.take i, decide (x.idx = n) = false) 0 (by simp) (cut_of (by simp) ?_) ?_
  · simp +decide -dsimp -implicitDefEqProofs [go_sem, hcl]
  intro i hi
  by_cases h : i < T.length
  · have wi : IntKind.i64.wrap ((i : Int) + 1) = i + 1 := w64 (by omega) (by omega)
    by_cases hp : T[i].idx = n
    · have hfi := findIdx?_at (p := fun x : Dvc => decide (x.idx = n)) h (decide_eq_true hp) hi.2
      simp +decide -dsimp -implicitDefEqProofs [go_sem, h, dcRow_eq, hp, hfi, idxI]
    · simp +decide -dsimp -implicitDefEqProofs [go_sem, h, dcRow_eq, hp, wi]
      refine next_of (i + 1) ⟨by omega, fun x hx => ?_⟩ (by omega) (cut_of (by simp) ?_)
      · rw [List.take_succ_eq_append_getElem h] at hx
        rcases List.mem_append.1 hx with hx | hx
        · exact hi.2 x hx
        · simp at hx; subst hx; simpa using hp
      simp +decide -dsimp -implicitDefEqProofs [go_sem, hcl]
  · have e : i = T.length := by omega
    have h2 := hi.2
    rw [e, List.take_length] at h2
    have h3 : (T.findIdx? fun x => decide (x.idx = n)) = none := by rw [List.findIdx?_eq_none_iff]; exact fun x hx => by simp [h2 x hx]
    simp +decide -dsimp -implicitDefEqProofs [go_sem, h, h3, idxI]
def zD : List AV := [.int .i64 0, .int .i64 0, .str [], .str [], .str [], .str [], .str [], .int .i64 0, .int .i64 0, .nils]
theorem idxD_some {T : List Dvc} {n : Int} {i : Nat} (h : idxD T n = some i) : ∃ hi : i < T.length, findD T n = some T[i] := by
  obtain ⟨h1, h2, h3⟩ := List.findIdx?_eq_some_iff_getElem.1 h
  exact ⟨h1, List.find?_eq_some_iff_getElem.2 ⟨h2, i, h1, rfl, fun j hj => by simpa using h3 j hj⟩⟩
theorem idxD_none {T : List Dvc} {n : Int} (h : idxD T n = none) : findD T n = none :=
  List.find?_eq_none.2 fun x hx => by simpa using List.findIdx?_eq_none_iff.1 h x hx
def fndV (o : Option Dvc) : AV := match o with | some d => .tup [.agg (dcRow d), .bool true] | none => .tup [.agg zD, .bool false]
theorem find_c (T : List Dvc) (n : Int) (hl : T.length < 1000000000) : ACalls Tryz.prog 109 [.agg [.imm (T.map dcRow)], .int .i64 n] [] (fndV (findD T n)) [] := by
  have hcl := fun k => dcRows_cl k T
  have ci := index_c T n hl
  refine acalls_F c109_ok rfl ?_
  unfold c109
  simp +decide -dsimp -implicitDefEqProofs [go_sem]
  refine callE_pure ci (by simp +decide -dsimp -implicitDefEqProofs [go_sem, hcl]) rfl ?_
  cases hi : idxD T n with
  | none =>
    rw [idxD_none hi]
    simp +decide -dsimp -implicitDefEqProofs [go_sem, idxI, fndV, zD]
  | some i =>
    obtain ⟨h, hf⟩ := idxD_some hi
    rw [hf]
    have ni : (0 : Int) ≤ i := by omega
    have hc := fun k => aRows_cl k T[i].attrs
    simp +decide -dsimp -implicitDefEqProofs [go_sem, idxI, fndV, ni, h, dcRow_eq, hc]
structure CS where
  out : List Dvc
  n : Int
structure CS.ok (T : List Dvc) (n0 : Int) (s : CS) : Prop where
  l : s.out.length ≤ T.length
  e : chain T n0 = s.out ++ chainF T (T.length - s.out.length) s.n
set_option maxHeartbeats 4000000 in
theorem chain_c (T : List Dvc) (n : Int) (hl : T.length < 1000000) : ACalls Tryz.prog 106 [.agg [.imm (T.map dcRow)], .int .i64 n] [] (.imm ((chain T n).map dcRow)) [] := by
  have hcl := fun k (T : List Dvc) => dcRows_cl k T
  refine acalls_F c106_ok rfl ?_
  unfold c106
  simp +decide -dsimp -implicitDefEqProofs [go_sem]
  refine loop_of (S := CS) (fun s => ⟨tmps 29 [(1, .int .i64 s.n), (2, .ptr 0 0), (5, .own 1 s.out.length)], [.box 28 [.imm (T.map dcRow)], .reg 55 10 (s.out.map dcRow)]⟩) (fun s => T.length - s.out.length) (CS.ok T n) ⟨[], n⟩ ⟨by simp, by simp [chain]⟩ ((Wk.nilT 5 55 10 rfl (by simp)).trans (cut_of (by simp) ?_)) ?_
  · simp +decide -dsimp -implicitDefEqProofs [go_sem, hcl]
  rintro ⟨out, m⟩ ⟨h1, h2⟩
  simp only at h1 h2
  by_cases h : out.length < T.length
  · obtain ⟨f, hf⟩ : ∃ f, T.length - out.length = f + 1 := ⟨T.length - out.length - 1, by omega⟩
    rw [hf, chainF] at h2
    have cf := find_c T m (by omega)
    simp +decide -dsimp -implicitDefEqProofs [go_sem, h]
    cases hfd : findD T m with
    | none =>
      rw [hfd] at h2 cf
      simp only [List.append_nil] at h2
      unfold fndV zD at cf
      refine callE_pure cf (by simp +decide -dsimp -implicitDefEqProofs [go_sem, hcl]) (by simp +decide -dsimp -implicitDefEqProofs [go_sem]) ?_
      rw [h2]
      simp +decide -dsimp -implicitDefEqProofs [go_sem, hcl]
    | some d =>
      rw [hfd] at h2 cf
      simp only [fndV, dcRow_eq] at cf
      have hc := fun k => aRows_cl k d.attrs
      have hdc := fun k => dcRow_cl k d
      have ha : out.map dcRow ++ [[.int .i64 d.idx, .int .i64 d.par, .str d.name, .str d.orig, .str d.sub, .str d.drv, .str d.ali, .int .i64 d.kind, .int .i64 d.num, .imm (d.attrs.map aRow)]] = (out ++ [d]).map dcRow := by rw [List.map_append]; rfl
      refine callE_pure cf (by simp +decide -dsimp -implicitDefEqProofs [go_sem, hcl]) (by simp +decide -dsimp -implicitDefEqProofs [go_sem, hc]) ?_
      simp +decide -dsimp -implicitDefEqProofs [go_sem, maxLen]
      refine ⟨⟨by omega, by omega⟩, ?_⟩
      rw [ha]
      refine next_of ⟨out ++ [d], d.par⟩ ⟨by show (out ++ [d]).length ≤ T.length; simp; omega, ?_⟩ (by show T.length - (out ++ [d]).length < T.length - out.length; simp; omega) (cut_of (by simp) ?_)
      · show chain T n = (out ++ [d]) ++ chainF T (T.length - (out ++ [d]).length) d.par
        rw [h2, List.length_append, List.length_singleton, show T.length - (out.length + 1) = f by omega, List.append_assoc]; rfl
      simp +decide -dsimp -implicitDefEqProofs [go_sem, hcl, hdc]
  · have e : T.length - out.length = 0 := by omega
    rw [e, chainF, List.append_nil] at h2
    rw [h2]
    simp +decide -dsimp -implicitDefEqProofs [go_sem, h, hcl]
theorem chainF_len (T : List Dvc) : ∀ (f : Nat) (n : Int), (chainF T f n).length ≤ f
  | 0, _ => Nat.le_refl 0
  | f + 1, n => by
    rw [chainF]
    split
    · simp
    · rw [List.length_cons]; exact Nat.succ_le_succ (chainF_len T f _)
theorem chain_len (T : List Dvc) (n : Int) : (chain T n).length ≤ T.length := chainF_len T _ n
theorem orgL_len (T : List Dvc) (n : Int) : (orgL T n).length ≤ T.length := by
  rw [orgL, List.length_reverse, List.length_map]; exact chain_len T n
set_option maxHeartbeats 4000000 in
theorem origin_c (T : List Dvc) (n : Int) (hl : T.length < 1000000) : ACalls Tryz.prog 65 [.agg [.imm (T.map dcRow)], .int .i64 n] [] (.imm ((orgL T n).map sRow)) [] := by
  have hcl := fun k (T : List Dvc) => dcRows_cl k T
  have cc := chain_c T n hl
  have hcn := chain_len T n
  unfold orgL
  generalize chain T n = C at cc hcn
  obtain ⟨R, hR⟩ : ∃ R, R = (C.map (·.orig)).reverse := ⟨_, rfl⟩
  have hRl : R.length = C.length := by rw [hR, List.length_reverse, List.length_map]
  have hRi : ∀ (i j : Nat) (h : i < R.length) (hj : j < C.length), i + j + 1 = C.length → R[i] = C[j].orig := fun i j h hj e => by
    subst hR
    rw [List.getElem_reverse, List.getElem_map]
    congr 2
    rw [List.length_map]; omega
  rw [← hR]
  clear hR
  have hcs : ∀ k i, closedLL k (List.take i (List.map sRow R)) = true := fun k i => by rw [← List.map_take]; exact closedLL_sRows k _
  refine acalls_F c65_ok rfl ?_
  unfold c65
  simp +decide -dsimp -implicitDefEqProofs [go_sem]
  refine callE_pure cc (by simp +decide -dsimp -implicitDefEqProofs [go_sem, hcl]) (by simp +decide -dsimp -implicitDefEqProofs [go_sem, hcl]) ?_
  have w0 : IntKind.i64.wrap ((C.length : Int) - 1) = (C.length : Int) - 1 := w64 (by omega) (by omega)
  simp +decide -dsimp -implicitDefEqProofs [go_sem, w0]
  refine loop_of (S := Nat) (fun i => ⟨tmps 27 [(5, .own 1 i), (6, .imm (C.map dcRow)), (7, .int .i64 ((C.length : Int) - 1 - i))], [.box 28 [.imm (T.map dcRow)], .reg 9 1 ((R.take i).map sRow)]⟩) (fun i => C.length - i) (fun i => i ≤ C.length) 0 (by simp) ((Wk.nilT 5 9 1 rfl (by simp)).trans (cut_of (by simp) ?_)) ?_
  · simp +decide -dsimp -implicitDefEqProofs [go_sem, hcl]
  intro i hi
  by_cases h : i < C.length
  · have h1 : (0 : Int) ≤ (C.length : Int) - 1 - i := by omega
    obtain ⟨j, hj⟩ : ∃ j : Nat, (C.length : Int) - 1 - i = j := ⟨C.length - 1 - i, by omega⟩
    have hjl : j < C.length := by omega
    have wj : IntKind.i64.wrap ((j : Int) - 1) = (C.length : Int) - 1 - (i + 1 : Nat) := by rw [w64 (by omega) (by omega)]; omega
    have ht : R.take (i + 1) = R.take i ++ [C[j].orig] := by
      rw [List.take_succ_eq_append_getElem (by omega), hRi i j (by omega) hjl (by omega)]
    have hlen : (R.take i).length = i := by rw [List.length_take]; omega
    generalize R.take i = O at ht hlen
    have ha : O.map sRow ++ [[.str C[j].orig]] = (O ++ [C[j].orig]).map sRow := by simp [sRow]
    subst hlen
    rw [hj]
    have nj : (0 : Int) ≤ j := by omega
    simp +decide -dsimp -implicitDefEqProofs [go_sem, nj, hjl, dcRow_eq, maxLen, wj]
    refine ⟨⟨by omega, by omega⟩, ?_⟩
    rw [ha, ← ht]
    refine next_of (O.length + 1) (by show O.length + 1 ≤ C.length; omega) (by show C.length - (O.length + 1) < C.length - O.length; omega) (cut_of (by simp) ?_)
    simp +decide -dsimp -implicitDefEqProofs [go_sem, hcl, hcs]
  · have e : i = C.length := by omega
    subst e
    rw [List.take_of_length_le (by omega), show (C.length : Int) - 1 - C.length = -1 by omega]
    simp +decide -dsimp -implicitDefEqProofs [go_sem, hRl]
set_option maxHeartbeats 4000000 in
/-- An origin, in a slice of our own. -/
theorem originW_c (T : List Dvc) (n : Int) (hl : T.length < 1000000) : ACalls Tryz.prog 65 [.agg [.imm (T.map dcRow)], .int .i64 n] [] (.own 0 (orgL T n).length) [.reg 9 1 ((orgL T n).map sRow)] := by
  have hcl := fun k (T : List Dvc) => dcRows_cl k T
  have cc := chain_c T n hl
  have hcn := chain_len T n
  unfold orgL
  generalize chain T n = C at cc hcn
  obtain ⟨R, hR⟩ : ∃ R, R = (C.map (·.orig)).reverse := ⟨_, rfl⟩
  have hRl : R.length = C.length := by rw [hR, List.length_reverse, List.length_map]
  have hRi : ∀ (i j : Nat) (h : i < R.length) (hj : j < C.length), i + j + 1 = C.length → R[i] = C[j].orig := fun i j h hj e => by
    subst hR
    rw [List.getElem_reverse, List.getElem_map]
    congr 2
    rw [List.length_map]; omega
  rw [← hR]
  clear hR
  have hcs : ∀ k i, closedLL k (List.take i (List.map sRow R)) = true := fun k i => by rw [← List.map_take]; exact closedLL_sRows k _
  refine acalls_W1 c65_ok ?_
  unfold c65
  simp +decide -dsimp -implicitDefEqProofs [go_sem]
  refine callE_pure cc (by simp +decide -dsimp -implicitDefEqProofs [go_sem, hcl]) (by simp +decide -dsimp -implicitDefEqProofs [go_sem, hcl]) ?_
  have w0 : IntKind.i64.wrap ((C.length : Int) - 1) = (C.length : Int) - 1 := w64 (by omega) (by omega)
  simp +decide -dsimp -implicitDefEqProofs [go_sem, w0]
  refine loop_of (S := Nat) (fun i => ⟨tmps 27 [(5, .own 1 i), (6, .imm (C.map dcRow)), (7, .int .i64 ((C.length : Int) - 1 - i))], [.box 28 [.imm (T.map dcRow)], .reg 9 1 ((R.take i).map sRow)]⟩) (fun i => C.length - i) (fun i => i ≤ C.length) 0 (by simp) ((Wk.nilT 5 9 1 rfl (by simp)).trans (cut_of (by simp) ?_)) ?_
  · simp +decide -dsimp -implicitDefEqProofs [go_sem, hcl]
  intro i hi
  by_cases h : i < C.length
  · have h1 : (0 : Int) ≤ (C.length : Int) - 1 - i := by omega
    obtain ⟨j, hj⟩ : ∃ j : Nat, (C.length : Int) - 1 - i = j := ⟨C.length - 1 - i, by omega⟩
    have hjl : j < C.length := by omega
    have wj : IntKind.i64.wrap ((j : Int) - 1) = (C.length : Int) - 1 - (i + 1 : Nat) := by rw [w64 (by omega) (by omega)]; omega
    have ht : R.take (i + 1) = R.take i ++ [C[j].orig] := by
      rw [List.take_succ_eq_append_getElem (by omega), hRi i j (by omega) hjl (by omega)]
    have hlen : (R.take i).length = i := by rw [List.length_take]; omega
    generalize R.take i = O at ht hlen
    have ha : O.map sRow ++ [[.str C[j].orig]] = (O ++ [C[j].orig]).map sRow := by simp [sRow]
    subst hlen
    rw [hj]
    have nj : (0 : Int) ≤ j := by omega
    simp +decide -dsimp -implicitDefEqProofs [go_sem, nj, hjl, dcRow_eq, maxLen, wj]
    refine ⟨⟨by omega, by omega⟩, ?_⟩
    rw [ha, ← ht]
    refine next_of (O.length + 1) (by show O.length + 1 ≤ C.length; omega) (by show C.length - (O.length + 1) < C.length - O.length; omega) (cut_of (by simp) ?_)
    simp +decide -dsimp -implicitDefEqProofs [go_sem, hcl, hcs]
  · have e : i = C.length := by omega
    subst e
    rw [List.take_of_length_le (by omega), show (C.length : Int) - 1 - C.length = -1 by omega]
    simp +decide -dsimp -implicitDefEqProofs [go_sem]
    refine endW_of ([.junk, .junk, .junk, .junk, .own 0 C.length] ++ List.replicate 22 .junk) [.reg 9 1 (R.map sRow)] (Wk.ren [1] (by decide) rfl (by decide) (fun j hj => absurd hj (by simp)) (fun j m s l hj => absurd hj (by simp)) (by simp [renO, renLL_sRows]) (by simp +decide [rnT, ren])) ?_
    simp +decide -dsimp -implicitDefEqProofs [go_sem, packR, hRl]
theorem place_c (T : List Dvc) (n : Int) (hl : T.length < 1000) (ho : ∀ d ∈ T, d.orig.length ≤ 1000) : ACalls Tryz.prog 71 [.agg [.imm (T.map dcRow)], .int .i64 n] [] (.str (placeT T n)) [] := by
  have hcl := fun k (T : List Dvc) => dcRows_cl k T
  have cc := origin_c T n (by omega)
  have hon := orgL_len T n
  have hoo : ∀ x ∈ orgL T n, x.length ≤ 1000 := fun x hx => by
    obtain ⟨d, hd, rfl⟩ := orgL_mem hx
    exact ho d hd
  unfold placeT
  generalize orgL T n = O at cc hon hoo
  refine acalls_F c71_ok rfl ?_
  unfold c71
  simp +decide -dsimp -implicitDefEqProofs [go_sem]
  refine callE_pure cc (by simp +decide -dsimp -implicitDefEqProofs [go_sem, hcl]) (by simp +decide -dsimp -implicitDefEqProofs [go_sem]) ?_
  by_cases h0 : O = []
  · subst h0
    simp +decide -dsimp -implicitDefEqProofs [go_sem, joinP]
  · have h1 : 0 < O.length := List.length_pos_iff.2 h0
    have cj : ACalls Tryz.prog 108 [.imm (O.map sRow)] [] (.str (joinP O)) [] := by
      have c := Join_c O h0 (by omega) hoo
      have hjl := joinP_len hoo
      have hm : O.length * 1001 ≤ 1000 * 1001 := Nat.mul_le_mul_right _ (by omega)
      rw [← joinP_join h0] at hjl ⊢
      simp only [List.length_cons] at hjl
      refine acalls_F c108_ok rfl ?_
      unfold c108
      simp +decide -dsimp -implicitDefEqProofs [go_sem]
      refine callE_pure c (by simp +decide -dsimp -implicitDefEqProofs [go_sem]) rfl ?_
      simp +decide -dsimp -implicitDefEqProofs [go_sem]
      omega
    simp +decide -dsimp -implicitDefEqProofs [go_sem, h1]
    refine callE_pure cj (by simp +decide -dsimp -implicitDefEqProofs [go_sem]) rfl ?_
    simp +decide -dsimp -implicitDefEqProofs [go_sem]
end Go.Ab
namespace Go.Ab
open Go Go.Proofs Go.Sort
set_option maxRecDepth 20000
def ndV (o : Option Txt) : AV := match o with | some s => .tup [.str s, .bool true] | none => .tup [.str [], .bool false]
theorem node_c (d : Dvc) (h : d.orig ∈ oS) : ACalls Tryz.prog 43 [.agg (dcRow d)] [] (ndV (nodeD d)) [] := by
  have cr := Replace_c d.orig h
  have hc := fun k => aRows_cl k d.attrs
  refine acalls_F c43_ok rfl ?_
  unfold c43 nodeD
  rw [dcRow_eq]
  by_cases h2 : d.kind = 2
  · simp +decide -dsimp -implicitDefEqProofs [go_sem, h2]
    refine callE_pure cr rfl rfl ?_
    simp +decide -dsimp -implicitDefEqProofs [go_sem, ndV]
  · by_cases h3 : d.kind = 3
    · simp +decide -dsimp -implicitDefEqProofs [go_sem, h3]
      refine callE_pure cr rfl rfl ?_
      simp +decide -dsimp -implicitDefEqProofs [go_sem, ndV]
    · simp +decide -dsimp -implicitDefEqProofs [go_sem, h2, h3, ndV]
theorem dnode_c (d : Dvc) (h : d.orig ∈ oS) : ACalls Tryz.prog 52 [.agg (dcRow d)] [] (ndV (nodeD d)) [] := by
  have cr := Replace_c d.orig h
  have hc := fun k => aRows_cl k d.attrs
  have cn : ACalls Tryz.prog 88 [.int .i64 d.kind] [] (.bool (decide (d.kind = 2 ∨ d.kind = 3))) [] := by
    refine acalls_F c88_ok rfl ?_
    unfold c88
    by_cases h2 : d.kind = 2
    · simp +decide -dsimp -implicitDefEqProofs [go_sem, h2]
    · by_cases h3 : d.kind = 3
      · simp +decide -dsimp -implicitDefEqProofs [go_sem, h3]
      · simp +decide -dsimp -implicitDefEqProofs [go_sem, h2, h3]
  refine acalls_F c52_ok rfl ?_
  unfold c52 nodeD
  rw [dcRow_eq]
  simp +decide -dsimp -implicitDefEqProofs [go_sem]
  refine callE_pure cn rfl rfl ?_
  by_cases h2 : d.kind = 2 ∨ d.kind = 3
  · rw [if_pos h2]
    simp +decide -dsimp -implicitDefEqProofs [go_sem, h2]
    refine callE_pure cr rfl rfl ?_
    simp +decide -dsimp -implicitDefEqProofs [go_sem, ndV]
  · rw [if_neg h2]
    simp +decide -dsimp -implicitDefEqProofs [go_sem, h2, ndV]
theorem nodeD_len {d : Dvc} (h : d.orig ∈ oS) {s : Txt} (hs : nodeD d = some s) : s.length ≤ 9 := by
  unfold nodeD at hs
  split at hs
  · cases hs; rw [List.length_map]; exact (oS_v _ h).2.2
  · cases hs
end Go.Ab
namespace Go.Ab
open Go Go.Proofs Go.Sort
set_option maxRecDepth 20000
set_option maxHeartbeats 8000000 in
theorem clash_c (a b : Dvc) (ha : a.orig ∈ oS) (hb : b.orig ∈ oS) : ACalls Tryz.prog 67 [.agg (dcRow a), .agg (dcRow b)] [] (.bool (clashB a b)) [] := by
  have na := node_c a ha
  have nb := node_c b hb
  have hca := fun k => aRows_cl k a.attrs
  have hcb := fun k => aRows_cl k b.attrs
  have la := fun s => nodeD_len (s := s) ha
  have lb := fun s => nodeD_len (s := s) hb
  rw [dcRow_eq] at na nb
  refine acalls_A c67_ok rfl ?_
  unfold c67
  rw [dcRow_eq, dcRow_eq]
  have bx : ∀ R : St, R = ⟨tmps 67 [(2, .ptr 0 0), (3, .ptr 1 0)], [.box 55 [.int .i64 a.idx, .int .i64 a.par, .str a.name, .str a.orig, .str a.sub, .str a.drv, .str a.ali, .int .i64 a.kind, .int .i64 a.num, .imm (a.attrs.map aRow)], .box 55 [.int .i64 b.idx, .int .i64 b.par, .str b.name, .str b.orig, .str b.sub, .str b.drv, .str b.ali, .int .i64 b.kind, .int .i64 b.num, .imm (b.attrs.map aRow)]]⟩ → True := fun _ _ => trivial
  refine awp_cut ⟨tmps 67 [(2, .ptr 0 0), (3, .ptr 1 0)], [.box 55 [.int .i64 a.idx, .int .i64 a.par, .str a.name, .str a.orig, .str a.sub, .str a.drv, .str a.ali, .int .i64 a.kind, .int .i64 a.num, .imm (a.attrs.map aRow)], .box 55 [.int .i64 b.idx, .int .i64 b.par, .str b.name, .str b.orig, .str b.sub, .str b.drv, .str b.ali, .int .i64 b.kind, .int .i64 b.num, .imm (b.attrs.map aRow)]]⟩ (awp_of ?_) ?_
  · simp +decide -dsimp -implicitDefEqProofs [go_sem]
    refine cut_of (by simp) ?_
    simp +decide -dsimp -implicitDefEqProofs [go_sem, hca, hcb]
  by_cases hn : a.kind = 4 ∧ b.kind = 4 ∧ a.name = b.name
  · obtain ⟨h1, h2, h3⟩ := hn
    have e : clashB a b = true := by simp [clashB, h1, h2, h3]
    rw [e]
    refine awp_of ?_
    simp +decide -dsimp -implicitDefEqProofs [go_sem, h1, h2, h3]
  have e0 : clashB a b = match nodeD a, nodeD b with
    | some s, some u => (decide (a.kind = b.kind) && decide (a.num = b.num)) || decide (s = u) || benB s u || benB u s
    | _, _ => false := by
    have : (decide (a.kind = 4) && decide (b.kind = 4) && decide (a.name = b.name)) = false := by
      simp only [Bool.and_eq_false_iff, decide_eq_false_iff_not]
      by_cases h1 : a.kind = 4
      · by_cases h2 : b.kind = 4
        · exact .inr fun h3 => hn ⟨h1, h2, h3⟩
        · exact .inl (.inr h2)
      · exact .inl (.inl h1)
    rw [clashB, this, Bool.false_or]
    rfl
  refine awp_cut ⟨tmps 67 [(2, .ptr 0 0), (3, .ptr 1 0)], [.box 55 [.int .i64 a.idx, .int .i64 a.par, .str a.name, .str a.orig, .str a.sub, .str a.drv, .str a.ali, .int .i64 a.kind, .int .i64 a.num, .imm (a.attrs.map aRow)], .box 55 [.int .i64 b.idx, .int .i64 b.par, .str b.name, .str b.orig, .str b.sub, .str b.drv, .str b.ali, .int .i64 b.kind, .int .i64 b.num, .imm (b.attrs.map aRow)]]⟩ (awp_of ?_) ?_
  · have p1 := fun h : a.kind = 4 => eq_true h
    by_cases h1 : a.kind = 4
    · have p1 : (a.kind = 4) = True := eq_true h1
      have b1 : (a.kind == 4) = true := by simp [h1]
      by_cases h2 : b.kind = 4
      · have h3 : (a.name = b.name) = False := eq_false fun h3 => hn ⟨h1, h2, h3⟩
        have h3b : (a.name == b.name) = false := by simpa using h3
        have p2 : (b.kind = 4) = True := eq_true h2
        have b2 : (b.kind == 4) = true := by simp [h2]
        simp +decide -dsimp -implicitDefEqProofs [go_sem, b1, b2, h3b]
        refine cut_of (by simp) ?_
        simp +decide -dsimp -implicitDefEqProofs [go_sem, hca, hcb]
      · have p2 : (b.kind = 4) = False := eq_false h2
        have b2 : (b.kind == 4) = false := by simp [h2]
        simp +decide -dsimp -implicitDefEqProofs [go_sem, b1, b2]
        refine cut_of (by simp) ?_
        simp +decide -dsimp -implicitDefEqProofs [go_sem, hca, hcb]
    · have p1 : (a.kind = 4) = False := eq_false h1
      have b1 : (a.kind == 4) = false := by simp [h1]
      simp +decide -dsimp -implicitDefEqProofs [go_sem, b1]
      refine cut_of (by simp) ?_
      simp +decide -dsimp -implicitDefEqProofs [go_sem, hca, hcb]
  generalize clashB a b = res at e0 ⊢
  generalize nodeD a = oa at na la e0
  generalize nodeD b = ob at nb lb e0
  clear hn bx
  obtain ⟨s, p, hna⟩ : ∃ s p, ndV oa = .tup [.str s, .bool p] := by cases oa <;> exact ⟨_, _, rfl⟩
  obtain ⟨u, q, hnb⟩ : ∃ s p, ndV ob = .tup [.str s, .bool p] := by cases ob <;> exact ⟨_, _, rfl⟩
  have ka := hna
  have kb := hnb
  rw [hna] at na
  rw [hnb] at nb
  refine awp_cut ⟨tmps 67 [(2, .ptr 0 0), (3, .ptr 1 0), (5, .str s), (6, .bool p)], [.box 55 [.int .i64 a.idx, .int .i64 a.par, .str a.name, .str a.orig, .str a.sub, .str a.drv, .str a.ali, .int .i64 a.kind, .int .i64 a.num, .imm (a.attrs.map aRow)], .box 55 [.int .i64 b.idx, .int .i64 b.par, .str b.name, .str b.orig, .str b.sub, .str b.drv, .str b.ali, .int .i64 b.kind, .int .i64 b.num, .imm (b.attrs.map aRow)]]⟩ (awp_of ?_) ?_
  · simp +decide -dsimp -implicitDefEqProofs [go_sem]
    refine callE_pure na (by simp +decide -dsimp -implicitDefEqProofs [go_sem, hca]) rfl ?_
    simp +decide -dsimp -implicitDefEqProofs [go_sem]
    refine cut_of (by simp) ?_
    simp +decide -dsimp -implicitDefEqProofs [go_sem, hca, hcb]
  refine awp_cut ⟨tmps 67 [(2, .ptr 0 0), (3, .ptr 1 0), (5, .str s), (6, .bool p), (7, .str u), (8, .bool q)], [.box 55 [.int .i64 a.idx, .int .i64 a.par, .str a.name, .str a.orig, .str a.sub, .str a.drv, .str a.ali, .int .i64 a.kind, .int .i64 a.num, .imm (a.attrs.map aRow)], .box 55 [.int .i64 b.idx, .int .i64 b.par, .str b.name, .str b.orig, .str b.sub, .str b.drv, .str b.ali, .int .i64 b.kind, .int .i64 b.num, .imm (b.attrs.map aRow)]]⟩ (awp_of ?_) ?_
  · simp +decide -dsimp -implicitDefEqProofs [go_sem]
    refine callE_pure nb (by simp +decide -dsimp -implicitDefEqProofs [go_sem, hcb]) rfl ?_
    simp +decide -dsimp -implicitDefEqProofs [go_sem]
    refine cut_of (by simp) ?_
    simp +decide -dsimp -implicitDefEqProofs [go_sem, hca, hcb]
  cases oa with
  | none =>
    have : p = false := by cases ka; rfl
    subst this
    simp only at e0
    subst e0
    refine awp_of ?_
    simp +decide -dsimp -implicitDefEqProofs [go_sem]
  | some s' =>
  have : s = s' ∧ p = true := by cases ka; exact ⟨rfl, rfl⟩
  obtain ⟨rfl, rfl⟩ := this
  cases ob with
  | none =>
    have : q = false := by cases kb; rfl
    subst this
    simp only at e0
    subst e0
    refine awp_of ?_
    simp +decide -dsimp -implicitDefEqProofs [go_sem]
  | some u' =>
  have : u = u' ∧ q = true := by cases kb; exact ⟨rfl, rfl⟩
  obtain ⟨rfl, rfl⟩ := this
  simp only at e0
  have ls := la s rfl
  have lu := lb u rfl
  have c1 := rBen_c s u (by omega)
  have c2 := rBen_c u s (by omega)
  clear na nb hna hnb ka kb la lb ls lu
  refine awp_cut ⟨tmps 67 [(2, .ptr 0 0), (3, .ptr 1 0), (5, .str s), (7, .str u)], [.box 55 [.int .i64 a.idx, .int .i64 a.par, .str a.name, .str a.orig, .str a.sub, .str a.drv, .str a.ali, .int .i64 a.kind, .int .i64 a.num, .imm (a.attrs.map aRow)], .box 55 [.int .i64 b.idx, .int .i64 b.par, .str b.name, .str b.orig, .str b.sub, .str b.drv, .str b.ali, .int .i64 b.kind, .int .i64 b.num, .imm (b.attrs.map aRow)]]⟩ (awp_of ?_) ?_
  · simp +decide -dsimp -implicitDefEqProofs [go_sem]
    refine cut_of (by simp) ?_
    simp +decide -dsimp -implicitDefEqProofs [go_sem, hca, hcb]
  refine awp_of ?_
  by_cases hkk : a.kind = b.kind
  · have q1 : (a.kind = b.kind) = True := eq_true hkk
    have q3 : (a.kind == b.kind) = true := by simp [hkk]
    by_cases hm : a.num = b.num
    · have q2 : (a.num = b.num) = True := eq_true hm
      have q4 : (a.num == b.num) = true := by simp [hm]
      have e1 : res = true := by rw [e0]; simp [hkk, hm]
      subst e1
      simp +decide -dsimp -implicitDefEqProofs [go_sem, q3, q4]
    have q2 : (a.num = b.num) = False := eq_false hm
    have q4 : (a.num == b.num) = false := by simp [hm]
    have e1 : res = (decide (s = u) || benB s u || benB u s) := by rw [e0]; simp [hm]
    clear e0
    by_cases hs : s = u
    · have q5 : (s = u) = True := eq_true hs
      have q6 : (s == u) = true := by simp [hs]
      have e2 : res = true := by rw [e1]; simp [hs]
      subst e2
      simp +decide -dsimp -implicitDefEqProofs [go_sem, q3, q4, q6]
    have q5 : (s = u) = False := eq_false hs
    have q6 : (s == u) = false := by simp [hs]
    have e2 : res = (benB s u || benB u s) := by rw [e1]; simp [hs]
    clear e1
    simp +decide -dsimp -implicitDefEqProofs [go_sem, q3, q4, q6]
    refine callE_pure c1 rfl rfl ?_
    cases hb1 : benB s u with
    | true =>
      rw [hb1, Bool.true_or] at e2
      subst e2
      simp +decide -dsimp -implicitDefEqProofs [go_sem]
    | false =>
      rw [hb1, Bool.false_or] at e2
      simp +decide -dsimp -implicitDefEqProofs [go_sem]
      refine callE_pure c2 rfl rfl ?_
      simp +decide -dsimp -implicitDefEqProofs [go_sem, e2]
  · have q1 : (a.kind = b.kind) = False := eq_false hkk
    have q3 : (a.kind == b.kind) = false := by simp [hkk]
    have e1 : res = (decide (s = u) || benB s u || benB u s) := by rw [e0]; simp [hkk]
    clear e0
    by_cases hs : s = u
    · have q5 : (s = u) = True := eq_true hs
      have q6 : (s == u) = true := by simp [hs]
      have e2 : res = true := by rw [e1]; simp [hs]
      subst e2
      simp +decide -dsimp -implicitDefEqProofs [go_sem, q3, q6]
    have q5 : (s = u) = False := eq_false hs
    have q6 : (s == u) = false := by simp [hs]
    have e2 : res = (benB s u || benB u s) := by rw [e1]; simp [hs]
    clear e1
    simp +decide -dsimp -implicitDefEqProofs [go_sem, q3, q6]
    refine callE_pure c1 rfl rfl ?_
    cases hb1 : benB s u with
    | true =>
      rw [hb1, Bool.true_or] at e2
      subst e2
      simp +decide -dsimp -implicitDefEqProofs [go_sem]
    | false =>
      rw [hb1, Bool.false_or] at e2
      simp +decide -dsimp -implicitDefEqProofs [go_sem]
      refine callE_pure c2 rfl rfl ?_
      simp +decide -dsimp -implicitDefEqProofs [go_sem, e2]
end Go.Ab
namespace Go.Ab
open Go Go.Proofs Go.Sort
set_option maxRecDepth 20000
def prB (s : Txt) : Bool := s.all fun c => decide (32 ≤ c.toNat) && decide (c.toNat ≤ 126)
theorem printable_c (s : Txt) (hl : s.length < 1000000000) : ACalls Tryz.prog 141 [.str s] [] (.bool (prB s)) [] := by
  refine acalls_F c141_ok rfl ?_
  unfold c141
  simp +decide -dsimp -implicitDefEqProofs [go_sem]
  refine loop_of (S := Nat) (fun i => ⟨tmps 20 [(0, .str s), (3, .int .i64 i)], []⟩) (fun i => s.length - i) (fun i => i ≤ s.length ∧ ∀ c ∈ s.take i, (decide (32 ≤ c.toNat) && decide (c.toNat ≤ 126)) = true) 0 (by simp) (cut_of (by simp) ?_) ?_
  · simp +decide -dsimp -implicitDefEqProofs [go_sem]
  intro i hi
  by_cases h : i < s.length
  · have wi : IntKind.i64.wrap ((i : Int) + 1) = i + 1 := w64 (by omega) (by omega)
    have hbad : (decide (32 ≤ s[i].toNat) && decide (s[i].toNat ≤ 126)) = false → prB s = false := fun hb => List.all_eq_false.2 ⟨s[i], List.getElem_mem h, by rw [hb]; decide⟩
    by_cases h1 : s[i].toNat < 32
    · have e := hbad (by simp; omega)
      have h1' : (s[i].toNat : Int) < 32 := by omega
      simp +decide -dsimp -implicitDefEqProofs [go_sem, h, h1', e]
    · have h1' : ¬ (s[i].toNat : Int) < 32 := by omega
      by_cases h2 : 126 < s[i].toNat
      · have e := hbad (by simp; omega)
        have h2' : (126 : Int) < s[i].toNat := by omega
        simp +decide -dsimp -implicitDefEqProofs [go_sem, h, h1', h2', e]
      · have h2' : ¬ (126 : Int) < s[i].toNat := by omega
        simp +decide -dsimp -implicitDefEqProofs [go_sem, h, h1', h2', wi]
        refine next_of (i + 1) ⟨by omega, fun x hx => ?_⟩ (by omega) (cut_of (by simp) ?_)
        · rw [List.take_succ_eq_append_getElem h] at hx
          rcases List.mem_append.1 hx with hx | hx
          · exact hi.2 x hx
          · simp at hx; subst hx; simp; omega
        simp +decide -dsimp -implicitDefEqProofs [go_sem]
  · have e : i = s.length := by omega
    have h2 := hi.2
    rw [e, List.take_length] at h2
    have e2 : prB s = true := List.all_eq_true.2 h2
    simp +decide -dsimp -implicitDefEqProofs [go_sem, h, e2]
theorem rText_c (s : Txt) (h : textP s = true) : ACalls Tryz.prog 102 [.str s] [] (.bool true) [] := by
  unfold textP at h
  simp only [Bool.and_eq_true, decide_eq_true_eq] at h
  have c := printable_c s (by omega)
  have hp : prB s = true := by rw [prB]; simpa using h.1
  rw [hp] at c
  have h2 : (s.length : Int) ≤ 256 := by omega
  refine acalls_F c102_ok rfl ?_
  unfold c102
  simp +decide -dsimp -implicitDefEqProofs [go_sem]
  refine callE_pure c rfl rfl ?_
  simp +decide -dsimp -implicitDefEqProofs [go_sem, h2]
theorem rIface_c (s : Txt) (h : s ∈ ifS) : ACalls Tryz.prog 103 [.str s] [] (.bool true) [] := by
  obtain ⟨h1, h2, _⟩ := ifS_i s h
  obtain ⟨x1, x2⟩ := ifS_x s h
  have cv := rValid_c s
  rw [(oS_v s h1).1] at cv
  have a1 := Contains1_c s 58 x1
  have a2 := Contains1_c s 33 x2
  have h3 : (s.length : Int) ≤ 15 := by omega
  refine acalls_F c103_ok rfl ?_
  unfold c103
  simp +decide -dsimp -implicitDefEqProofs [go_sem]
  refine callE_pure cv rfl rfl ?_
  simp +decide -dsimp -implicitDefEqProofs [go_sem, h3]
  refine callE_pure a1 rfl rfl ?_
  simp +decide -dsimp -implicitDefEqProofs [go_sem]
  refine callE_pure a2 rfl rfl ?_
  simp +decide -dsimp -implicitDefEqProofs [go_sem]
theorem rSorted_c (l : List (Txt × Txt)) (hl : l.length < 1000000) (ha : ascA l) : ACalls Tryz.prog 104 [.imm (l.map aRow)] [] (.bool true) [] := by
  have hcl := fun k => aRows_cl k l
  have hae : ∀ p : Txt × Txt, aRow p = [.str p.1, .str p.2] := fun _ => rfl
  refine acalls_F c104_ok rfl ?_
  unfold c104
  simp +decide -dsimp -implicitDefEqProofs [go_sem]
  refine loop_of (S := Nat) (fun i => ⟨tmps 22 [(0, .imm (l.map aRow)), (3, .int .i64 i)], []⟩) (fun i => l.length - i) (fun i => 1 ≤ i) 1 (by simp) (cut_of (by simp) ?_) ?_
  · simp +decide -dsimp -implicitDefEqProofs [go_sem, hcl]
  intro i hi
  by_cases h : i < l.length
  · obtain ⟨j, hj⟩ : ∃ j, i = j + 1 := ⟨i - 1, by omega⟩
    have w1 : IntKind.i64.wrap ((i : Int) - 1) = j := by rw [w64 (by omega) (by omega)]; omega
    have w2 : IntKind.i64.wrap ((i : Int) + 1) = i + 1 := w64 (by omega) (by omega)
    have hlt : l[j].1 < l[i].1 := List.pairwise_iff_getElem.1 ha j i (by omega) h (by omega)
    have hb : Op.bytesLess l[j].1 l[i].1 = true := by rw [bytesLess_eq]; exact decide_eq_true hlt
    have hi2 : j < l.length := by omega
    simp +decide -dsimp -implicitDefEqProofs [go_sem, h, hi2, w1, w2, hae, hb]
    refine next_of (i + 1) (by show 1 ≤ i + 1; omega) (by show l.length - (i + 1) < l.length - i; omega) (cut_of (by simp) ?_)
    simp +decide -dsimp -implicitDefEqProofs [go_sem, hcl]
  · simp +decide -dsimp -implicitDefEqProofs [go_sem, h]
set_option maxHeartbeats 8000000 in
theorem check_c (d : Dvc) (hF : Fine d) (hi : 1 ≤ d.idx ∧ d.idx ≤ 1000) (hp : 0 ≤ d.par ∧ d.par < d.idx) : ACalls Tryz.prog 63 [.agg (dcRow d)] [] (.int .i64 0) [] := by
  have hc := fun k => aRows_cl k d.attrs
  have hae : ∀ p : Txt × Txt, aRow p = [.str p.1, .str p.2] := fun _ => rfl
  have f1 : ¬ d.idx < 1 := by omega
  have f2 : ¬ (1073741824 : Int) < d.idx := by omega
  have f3 : ¬ d.par < 0 := by omega
  have f4 : ¬ (1073741824 : Int) < d.par := by omega
  have f5 : ¬ d.par = d.idx := by omega
  have k1 : ¬ d.kind < 1 := by have := hF.k; omega
  have k2 : ¬ (4 : Int) < d.kind := by have := hF.k; omega
  have v1 := rValid_c d.name
  rw [hF.nv] at v1
  have v2 := rValid_c d.orig
  rw [(oS_v _ hF.o).1] at v2
  have v3 := rValid_c d.sub
  rw [sb_v _ hF.s] at v3
  have v4 := rText_c d.ali (al_t _ hF.al)
  have v5 := node_c d hF.o
  have v6 := rSorted_c d.attrs (by have := hF.al6; omega) hF.aa
  have h24 : ¬ (24 : Int) < d.attrs.length := by have := hF.al6; omega
  rw [dcRow_eq] at v5
  refine acalls_A c63_ok rfl ?_
  unfold c63
  rw [dcRow_eq]
  refine awp_cut ⟨tmps 172 [(1, .ptr 0 0)], [.box 55 (dcRow d)]⟩ (awp_of ?_) ?_
  · simp +decide -dsimp -implicitDefEqProofs [go_sem]
    refine cut_of (by simp) ?_
    simp +decide -dsimp -implicitDefEqProofs [go_sem, hc, dcRow_eq]
  rw [dcRow_eq]
  refine awp_cut ⟨tmps 172 [(1, .ptr 0 0)], [.box 55 (dcRow d)]⟩ (awp_of ?_) ?_
  · simp +decide -dsimp -implicitDefEqProofs [go_sem, f1, f2, f3, f4, f5]
    refine cut_of (by simp) ?_
    simp +decide -dsimp -implicitDefEqProofs [go_sem, hc, dcRow_eq]
  rw [dcRow_eq]
  refine awp_cut ⟨tmps 172 [(1, .ptr 0 0)], [.box 55 (dcRow d)]⟩ (awp_of ?_) ?_
  · simp +decide -dsimp -implicitDefEqProofs [go_sem]
    refine callE_pure v1 rfl rfl ?_
    simp +decide -dsimp -implicitDefEqProofs [go_sem]
    refine callE_pure v2 rfl rfl ?_
    simp +decide -dsimp -implicitDefEqProofs [go_sem]
    refine callE_pure v3 rfl rfl ?_
    have hdv := dr_v _ hF.dr
    obtain ⟨dr, hdr⟩ : ∃ dr, d.drv = dr := ⟨_, rfl⟩
    simp only [dcRow_eq]
    rw [hdr] at hdv ⊢
    cases dr with
    | nil =>
      simp +decide -dsimp -implicitDefEqProofs [go_sem]
      refine callE_pure v4 rfl rfl ?_
      simp +decide -dsimp -implicitDefEqProofs [go_sem]
      refine cut_of (by simp) ?_
      simp +decide -dsimp -implicitDefEqProofs [go_sem, hc]
    | cons x r =>
      have v7 := rValid_c (x :: r)
      rw [hdv.resolve_left (by simp)] at v7
      simp +decide -dsimp -implicitDefEqProofs [go_sem]
      refine callE_pure v7 rfl rfl ?_
      simp +decide -dsimp -implicitDefEqProofs [go_sem]
      refine callE_pure v4 rfl rfl ?_
      simp +decide -dsimp -implicitDefEqProofs [go_sem]
      refine cut_of (by simp) ?_
      simp +decide -dsimp -implicitDefEqProofs [go_sem, hc]
  rw [dcRow_eq]
  refine awp_cut ⟨tmps 172 [(1, .ptr 0 0)], [.box 55 (dcRow d)]⟩ (awp_of ?_) ?_
  · simp +decide -dsimp -implicitDefEqProofs [go_sem, k1, k2]
    refine cut_of (by simp) ?_
    simp +decide -dsimp -implicitDefEqProofs [go_sem, hc, dcRow_eq]
  rw [dcRow_eq]
  refine awp_cut ⟨tmps 172 [(1, .ptr 0 0)], [.box 55 (dcRow d)]⟩ (awp_of ?_) ?_
  · by_cases h4 : d.kind = 4
    · have q1 : (d.kind = 4) = True := eq_true h4
      have q2 : (d.kind == 4) = true := by simp [h4]
      have i1 := rIface_c _ (hF.net h4).1
      have i2 := rIface_c _ (hF.net h4).2
      simp +decide -dsimp -implicitDefEqProofs [go_sem, q2]
      refine callE_pure i1 rfl rfl ?_
      simp +decide -dsimp -implicitDefEqProofs [go_sem]
      refine callE_pure i2 rfl rfl ?_
      simp +decide -dsimp -implicitDefEqProofs [go_sem, q1]
      refine cut_of (by simp) ?_
      simp +decide -dsimp -implicitDefEqProofs [go_sem, hc, dcRow_eq]
    · have q1 : (d.kind = 4) = False := eq_false h4
      have q2 : (d.kind == 4) = false := by simp [h4]
      have q3 : (d.name = d.orig) = True := eq_true (hF.non h4)
      have q4 : (d.name == d.orig) = true := by simpa using hF.non h4
      simp +decide -dsimp -implicitDefEqProofs [go_sem, q1, q2, q4]
      refine cut_of (by simp) ?_
      simp +decide -dsimp -implicitDefEqProofs [go_sem, hc, dcRow_eq]
  rw [dcRow_eq]
  obtain ⟨s, p, hnd⟩ : ∃ s p, ndV (nodeD d) = .tup [.str s, .bool p] := by cases nodeD d <;> exact ⟨_, _, rfl⟩
  have hps : p = true → (d.kind = 2 ∨ d.kind = 3) ∧ s = d.orig.map slashB := fun e => by
    subst e
    unfold nodeD at hnd
    by_cases h : d.kind = 2 ∨ d.kind = 3
    · rw [if_pos h] at hnd; cases hnd; exact ⟨h, rfl⟩
    · rw [if_neg h] at hnd; cases hnd
  have hpf : p = false → ¬ (d.kind = 2 ∨ d.kind = 3) := fun e h => by
    subst e
    unfold nodeD at hnd
    rw [if_pos h] at hnd; cases hnd
  rw [hnd] at v5
  refine awp_cut ⟨tmps 172 [(1, .ptr 0 0), (3, .str s), (4, .bool p)], [.box 55 (dcRow d)]⟩ (awp_of ?_) ?_
  · simp +decide -dsimp -implicitDefEqProofs [go_sem]
    refine callE_pure v5 (by simp +decide -dsimp -implicitDefEqProofs [go_sem, hc]) rfl ?_
    simp +decide -dsimp -implicitDefEqProofs [go_sem]
    refine cut_of (by simp) ?_
    simp +decide -dsimp -implicitDefEqProofs [go_sem, hc, dcRow_eq]
  rw [dcRow_eq]
  refine awp_cut ⟨tmps 172 [(1, .ptr 0 0), (3, .str s), (4, .bool p)], [.box 55 (dcRow d)]⟩ (awp_of ?_) ?_
  · cases p with
    | true =>
      have hb := hF.bc (hps rfl).1
      have n1 : ¬ d.num < 1 := by omega
      have n2 : ¬ (1073741824 : Int) < d.num := by omega
      simp +decide -dsimp -implicitDefEqProofs [go_sem, n1, n2]
      refine cut_of (by simp) ?_
      simp +decide -dsimp -implicitDefEqProofs [go_sem, hc, dcRow_eq]
    | false =>
      have n0 : (d.num = 0) = True := eq_true (hF.nb (hpf rfl))
      have n1 : (d.num == 0) = true := by simpa using hF.nb (hpf rfl)
      simp +decide -dsimp -implicitDefEqProofs [go_sem, n0]
      refine cut_of (by simp) ?_
      simp +decide -dsimp -implicitDefEqProofs [go_sem, hc, dcRow_eq]
  rw [dcRow_eq]
  refine awp_cut ⟨tmps 172 [(1, .ptr 0 0), (3, .str s), (4, .bool p)], [.box 55 (dcRow d)]⟩ (awp_of ?_) ?_
  · simp +decide -dsimp -implicitDefEqProofs [go_sem, h24]
    refine cut_of (by simp) ?_
    simp +decide -dsimp -implicitDefEqProofs [go_sem, hc, dcRow_eq]
  rw [dcRow_eq]
  refine awp_cut ⟨tmps 172 [(1, .ptr 0 0), (3, .str s), (4, .bool p)], [.box 55 (dcRow d)]⟩ (awp_of ?_) ?_
  · simp +decide -dsimp -implicitDefEqProofs [go_sem]
    refine loop_of (S := Nat) (fun i => ⟨tmps 172 [(1, .ptr 0 0), (3, .str s), (4, .bool p), (5, .int .i64 i)], [.box 55 (dcRow d)]⟩) (fun i => d.attrs.length - i) (fun i => i ≤ d.attrs.length) 0 (by simp) (cut_of (by simp) ?_) ?_
    · simp +decide -dsimp -implicitDefEqProofs [go_sem, hc, dcRow_eq]
    intro i hi
    by_cases h : i < d.attrs.length
    · have wi : IntKind.i64.wrap ((i : Int) + 1) = i + 1 := w64 (by omega) (by have := hF.al6; omega)
      obtain ⟨m1, m2, m3⟩ := hF.am _ (List.getElem_mem h)
      have a1 := rValid_c d.attrs[i].1
      rw [an_v _ m1] at a1
      have a2 := rText_c d.attrs[i].2 (av_t _ m2)
      simp +decide -dsimp -implicitDefEqProofs [go_sem, dcRow_eq, h, hae]
      refine callE_pure a1 rfl rfl ?_
      simp +decide -dsimp -implicitDefEqProofs [go_sem, h, hae]
      refine callE_pure a2 rfl rfl ?_
      simp +decide -dsimp -implicitDefEqProofs [go_sem, h, hae, m3, wi]
      refine next_of (i + 1) (by show i + 1 ≤ d.attrs.length; omega) (by show d.attrs.length - (i + 1) < d.attrs.length - i; omega) (cut_of (by simp) ?_)
      simp +decide -dsimp -implicitDefEqProofs [go_sem, hc, dcRow_eq]
    · have e : i = d.attrs.length := by omega
      subst e
      simp +decide -dsimp -implicitDefEqProofs [go_sem, dcRow_eq]
      refine cut_of (by simp) ?_
      simp +decide -dsimp -implicitDefEqProofs [go_sem, hc]
  rw [dcRow_eq]
  refine awp_of ?_
  simp +decide -dsimp -implicitDefEqProofs [go_sem]
  refine callE_pure v6 (by simp +decide -dsimp -implicitDefEqProofs [go_sem, hc]) rfl ?_
  cases p with
  | true =>
    obtain ⟨hk, rfl⟩ := hps rfl
    have hb := bcS_l _ (hF.bc hk).1
    have vl := rLink_c (d.orig.map slashB) (by have := hb.2; omega)
    rw [hb.1] at vl
    simp +decide -dsimp -implicitDefEqProofs [go_sem]
    refine callE_pure vl rfl rfl ?_
    simp +decide -dsimp -implicitDefEqProofs [go_sem]
  | false =>
    simp +decide -dsimp -implicitDefEqProofs [go_sem]
end Go.Ab
namespace Go.Ab
open Go Go.Proofs Go.Sort
set_option maxRecDepth 20000
/-- acalls_A, with n unborn objects besides. -/
theorem acalls_AU {P : Program} {own : List Nat} {f : Nat} {fn : AFn} {xs : List AV} {H H' : List AObj} {av : AV} (n : Nat) (hf : compileF P own f = some fn) (hk : H.length = H'.length)
    (h : awp P H.length fn.body (retP H.length fn.res av H') ⟨xs ++ List.replicate (fn.nt - xs.length) .junk, H ++ List.replicate n .unborn⟩) : ACalls P f xs H av H' :=
  acalls_intro hf (awp_wk (Wk.pushN n) (awp_mono h fun e s hs => by
    cases e with
    | normal => exact (retQ_of hk hs.1 hs.2).2
    | ret => exact (retQ_of hk hs.1 hs.2).1
    | _ => exact hs.elim))
def insV (T : List Dvc) (d : Dvc) : AV := if (ownO T d).length ≤ 7 then (if T.any (badO T d) = true then .tup [.agg [.nils], .int .i64 44] else .tup [.agg [.imm ((insT T d).map dcRow)], .int .i64 0]) else .tup [.agg [.nils], .int .i64 46]
structure IS.ok (T : List Dvc) (d : Dvc) (i : Nat) : Prop where
  l : i ≤ T.length
  g : ∀ x ∈ T.take i, badO T d x = false
set_option maxHeartbeats 8000000 in
theorem insert_c (T : List Dvc) (d : Dvc) (hl : T.length ≤ 100) (hS : ∀ x ∈ T, x.orig ∈ oS) (hF : Fine d) (hi : 1 ≤ d.idx ∧ d.idx ≤ 1000) (hp : 0 ≤ d.par ∧ d.par < d.idx) (hn : findD T d.idx = none) (hpe : d.par ≠ 0 → (findD T d.par).isSome = true) :
    ACalls Tryz.prog 37 [.agg [.imm (T.map dcRow)], .agg (dcRow d)] [] (insV T d) [] := by
  have hcl := fun k (T : List Dvc) => dcRows_cl k T
  have hdc := fun k (d : Dvc) => dcRow_cl k d
  have hda := fun k => aRows_cl k d.attrs
  have hdl : (dcRow d).length = 10 := rfl
  have c1 := check_c d hF hi hp
  rw [dcRow_eq] at c1
  have c2 := index_c T d.idx (by omega)
  have c3 := index_c T d.par (by omega)
  have n2 : idxD T d.idx = none := by
    cases h : idxD T d.idx with
    | none => rfl
    | some i => obtain ⟨_, h2⟩ := idxD_some h; rw [hn] at h2; cases h2
  have n3 : d.par ≠ 0 → ∃ i, idxD T d.par = some i := fun h => by
    cases h3 : idxD T d.par with
    | none => have := hpe h; rw [idxD_none h3] at this; cases this
    | some i => exact ⟨i, rfl⟩
  rw [n2] at c2
  have cO := ACalls.unborn (originW_c T d.par (by omega)) (by simp +decide -dsimp -implicitDefEqProofs [go_sem, hcl]) 1 (by simp)
  have hol : (ownO T d).length ≤ 101 := by
    have := orgL_len T d.par
    rw [ownO, List.length_append]; simp; omega
  have l256 : ¬ (256 : Int) ≤ T.length := by omega
  refine acalls_AU 1 c37_ok rfl ?_
  unfold c37
  refine awp_cut ⟨tmps 101 [(2, .ptr 1 0), (3, .ptr 2 0), (4, .ptr 3 0)], [.unborn, .box 28 [.imm (T.map dcRow)], .box 55 (dcRow d), .box 28 [.nils]]⟩ (awp_of ?_) ?_
  · simp +decide -dsimp -implicitDefEqProofs [go_sem, dcRow_eq]
    refine cut_of (by simp) ?_
    simp +decide -dsimp -implicitDefEqProofs [go_sem, hcl, hda]
  rw [dcRow_eq]
  refine awp_cut ⟨tmps 101 [(2, .ptr 1 0), (3, .ptr 2 0), (4, .ptr 3 0)], [.unborn, .box 28 [.imm (T.map dcRow)], .box 55 (dcRow d), .box 28 [.nils]]⟩ (awp_of ?_) ?_
  · simp +decide -dsimp -implicitDefEqProofs [go_sem]
    refine callE_pure c1 (by simp +decide -dsimp -implicitDefEqProofs [go_sem, hda]) rfl ?_
    simp +decide -dsimp -implicitDefEqProofs [go_sem]
    refine cut_of (by simp) ?_
    simp +decide -dsimp -implicitDefEqProofs [go_sem, hcl, hda, dcRow_eq]
  rw [dcRow_eq]
  refine awp_cut ⟨tmps 101 [(2, .ptr 1 0), (3, .ptr 2 0), (4, .ptr 3 0)], [.unborn, .box 28 [.imm (T.map dcRow)], .box 55 (dcRow d), .box 28 [.nils]]⟩ (awp_of ?_) ?_
  · simp +decide -dsimp -implicitDefEqProofs [go_sem]
    refine callE_pure c2 (by simp +decide -dsimp -implicitDefEqProofs [go_sem, hcl]) rfl ?_
    simp +decide -dsimp -implicitDefEqProofs [go_sem, idxI]
    refine cut_of (by simp) ?_
    simp +decide -dsimp -implicitDefEqProofs [go_sem, hcl, hda, dcRow_eq]
  rw [dcRow_eq]
  refine awp_cut ⟨tmps 101 [(2, .ptr 1 0), (3, .ptr 2 0), (4, .ptr 3 0)], [.unborn, .box 28 [.imm (T.map dcRow)], .box 55 (dcRow d), .box 28 [.nils]]⟩ (awp_of ?_) ?_
  · by_cases h0 : d.par = 0
    · have q1 : (d.par == 0) = true := by simp [h0]
      simp +decide -dsimp -implicitDefEqProofs [go_sem, dcRow_eq, h0]
      refine cut_of (by simp) ?_
      simp +decide -dsimp -implicitDefEqProofs [go_sem, hcl, hda]
    · obtain ⟨i, hi3⟩ := n3 h0
      rw [hi3] at c3
      have ni : ¬ ((i : Int) < 0) := by omega
      simp +decide -dsimp -implicitDefEqProofs [go_sem, h0]
      refine callE_pure c3 (by simp +decide -dsimp -implicitDefEqProofs [go_sem, hcl]) rfl ?_
      have hix : idxI (some i) = (i : Int) := rfl
      simp +decide -dsimp -implicitDefEqProofs [go_sem, hix, ni, h0]
      refine cut_of (by simp) ?_
      simp +decide -dsimp -implicitDefEqProofs [go_sem, hcl, hda, dcRow_eq]
  rw [dcRow_eq]
  refine awp_cut ⟨tmps 101 [(2, .ptr 1 0), (3, .ptr 2 0), (4, .ptr 3 0)], [.unborn, .box 28 [.imm (T.map dcRow)], .box 55 (dcRow d), .box 28 [.nils]]⟩ (awp_of ?_) ?_
  · simp +decide -dsimp -implicitDefEqProofs [go_sem, l256]
    refine cut_of (by simp) ?_
    simp +decide -dsimp -implicitDefEqProofs [go_sem, hcl, hda, dcRow_eq]
  have hre : (orgL T d.par).map sRow ++ [[.str d.orig]] = (ownO T d).map sRow := by simp [ownO, sRow]
  have hle : (orgL T d.par).length + 1 = ((ownO T d).map sRow).length := by simp [ownO]
  rw [dcRow_eq]
  refine awp_cut ⟨tmps 101 [(2, .ptr 1 0), (3, .ptr 2 0), (4, .ptr 3 0), (6, .imm ((ownO T d).map sRow))], [.dead, .box 28 [.imm (T.map dcRow)], .box 55 (dcRow d), .box 28 [.nils]]⟩ (awp_of ?_) ?_
  · simp +decide -dsimp -implicitDefEqProofs [go_sem]
    refine callDE_frame [0] cO rfl rfl (by simp) (by simp +decide -dsimp -implicitDefEqProofs [go_sem, renLL_dcRows]) (by simp +decide -dsimp -implicitDefEqProofs [go_sem]) ?_
    simp +decide -dsimp -implicitDefEqProofs [go_sem, maxLen]
    have hol2 := orgL_len T d.par
    refine ⟨⟨by omega, by omega⟩, ?_⟩
    rw [hre, hle]
    refine (Wk.frz 6 0 rfl rfl).trans (cut_of (by simp) ?_)
    simp +decide -dsimp -implicitDefEqProofs [go_sem, hcl, hda, dcRow_eq]
  obtain ⟨O, hO⟩ : ∃ O, O = ownO T d := ⟨_, rfl⟩
  rw [← hO] at hol ⊢
  by_cases h7 : (7 : Int) < O.length
  · have hv : insV T d = .tup [.agg [.nils], .int .i64 46] := by rw [insV, ← hO, if_neg (by omega)]
    rw [hv]
    refine awp_of ?_
    simp +decide -dsimp -implicitDefEqProofs [go_sem, h7, dcRow_eq]
  have hv : insV T d = if T.any (badO T d) = true then .tup [.agg [.nils], .int .i64 44] else .tup [.agg [.imm ((insT T d).map dcRow)], .int .i64 0] := by rw [insV, ← hO, if_pos (by omega)]
  rw [hv]
  clear hv
  rw [dcRow_eq]
  refine awp_cut ⟨tmps 101 [(2, .ptr 1 0), (3, .ptr 2 0), (4, .ptr 3 0), (6, .imm ((O).map sRow))], [.dead, .box 28 [.imm (T.map dcRow)], .box 55 (dcRow d), .box 28 [.nils]]⟩ (awp_of ?_) ?_
  · simp +decide -dsimp -implicitDefEqProofs [go_sem, h7, dcRow_eq]
    refine cut_of (by simp) ?_
    simp +decide -dsimp -implicitDefEqProofs [go_sem, hcl, hda]
  rw [dcRow_eq]
  refine awp_cut ⟨tmps 101 [(2, .ptr 1 0), (3, .ptr 2 0), (4, .ptr 3 0), (6, .imm (O.map sRow)), (7, .int .i64 0)], [.dead, .box 28 [.imm (T.map dcRow)], .box 55 (dcRow d), .box 28 [.nils]]⟩ (awp_of ?_) ?_
  · simp +decide -dsimp -implicitDefEqProofs [go_sem, dcRow_eq]
    refine cut_of (by simp) ?_
    simp +decide -dsimp -implicitDefEqProofs [go_sem, hcl, hda]
  rw [dcRow_eq]
  refine awp_of ?_
  simp +decide -dsimp -implicitDefEqProofs [go_sem]
  refine loop_of (S := Nat) (fun i => ⟨tmps 101 [(2, .ptr 1 0), (3, .ptr 2 0), (4, .ptr 3 0), (6, .imm (O.map sRow)), (7, .int .i64 (atN (lessO T d) T i)), (8, .int .i64 i)], [.dead, .box 28 [.imm (T.map dcRow)], .box 55 (dcRow d), .box 28 [.nils]]⟩) (fun i => T.length - i) (IS.ok T d) 0 ⟨by simp, by simp⟩ (cut_of (by simp) ?_) ?_
  · simp +decide -dsimp -implicitDefEqProofs [go_sem, hcl, hda, dcRow_eq, atN]
  rintro i ⟨hil, hg⟩
  by_cases h : i < T.length
  · have wi : IntKind.i64.wrap ((i : Int) + 1) = i + 1 := w64 (by omega) (by omega)
    have q1 := origin_c T T[i].idx (by omega)
    have q2 := rCompare_c (orgL T T[i].idx) O (by have := orgL_len T T[i].idx; omega) (by omega)
    have q3 := clash_c T[i] d (hS _ (List.getElem_mem h)) hF.o
    have hat : atN (lessO T d) T (i + 1) = if lessO T d T[i] = true then i + 1 else atN (lessO T d) T i := by
      rw [atN, List.getElem?_eq_getElem h]; rfl
    have hai := fun k => aRows_cl k T[i].attrs
    have hbd : badO T d T[i] = (decide (cmpL (orgL T T[i].idx) O = 0) || clashB T[i] d) := by rw [badO, ← hO]
    have hls : lessO T d T[i] = decide (cmpL (orgL T T[i].idx) O < 0) := by rw [lessO, ← hO]
    rw [dcRow_eq, dcRow_eq] at q3
    simp +decide -dsimp -implicitDefEqProofs [go_sem, h, dcRow_eq]
    refine callDE_pure q1 (by simp +decide -dsimp -implicitDefEqProofs [go_sem, hcl]) (by simp +decide -dsimp -implicitDefEqProofs [go_sem]) ?_
    simp +decide -dsimp -implicitDefEqProofs [go_sem]
    refine callDE_pure q2 (by simp +decide -dsimp -implicitDefEqProofs [go_sem]) rfl ?_
    generalize cmpL (orgL T T[i].idx) O = cm at hbd hls
    by_cases h0 : cm = 0
    · have hb1 : T.any (badO T d) = true := List.any_eq_true.2 ⟨T[i], List.getElem_mem h, by rw [hbd]; simp [h0]⟩
      simp +decide -dsimp -implicitDefEqProofs [go_sem, h0, hb1]
    have p0 : (cm == 0) = false := by simp [h0]
    simp +decide -dsimp -implicitDefEqProofs [go_sem, p0, h, dcRow_eq]
    refine callDE_pure q3 (by simp +decide -dsimp -implicitDefEqProofs [go_sem, hda, hai]) rfl ?_
    cases hcl2 : clashB T[i] d with
    | true =>
      have hb1 : T.any (badO T d) = true := List.any_eq_true.2 ⟨T[i], List.getElem_mem h, by rw [hbd, hcl2]; simp⟩
      simp +decide -dsimp -implicitDefEqProofs [go_sem, hb1]
    | false =>
      have hb0 : badO T d T[i] = false := by rw [hbd, hcl2]; simp [h0]
      have hok : IS.ok T d (i + 1) := ⟨by omega, fun x hx => by
        rw [List.take_succ_eq_append_getElem h] at hx
        rcases List.mem_append.1 hx with hx | hx
        · exact hg x hx
        · simp at hx; subst hx; exact hb0⟩
      by_cases hlt : cm < 0
      · have hl1 : lessO T d T[i] = true := by rw [hls]; exact decide_eq_true hlt
        rw [if_pos hl1] at hat
        simp +decide -dsimp -implicitDefEqProofs [go_sem, hlt, wi]
        refine next_of (i + 1) hok (by show T.length - (i + 1) < T.length - i; omega) (cut_of (by simp) ?_)
        rw [hat]
        simp +decide -dsimp -implicitDefEqProofs [go_sem, hcl, hda, dcRow_eq]
      · have hl1 : ¬ lessO T d T[i] = true := by rw [hls]; simpa using hlt
        rw [if_neg hl1] at hat
        simp +decide -dsimp -implicitDefEqProofs [go_sem, hlt, wi]
        refine next_of (i + 1) hok (by show T.length - (i + 1) < T.length - i; omega) (cut_of (by simp) ?_)
        rw [hat]
        simp +decide -dsimp -implicitDefEqProofs [go_sem, hcl, hda, dcRow_eq]
  · have e : i = T.length := by omega
    subst e
    rw [List.take_length] at hg
    have hna : T.any (badO T d) = false := List.any_eq_false.2 fun x hx => by rw [hg x hx]; decide
    have hin : insT T d = T.take (atN (lessO T d) T T.length) ++ d :: T.drop (atN (lessO T d) T T.length) := rfl
    have hle2 := atN_le (lessO T d) T T.length
    simp only [hna, Bool.false_eq_true, if_false]
    generalize insT T d = R at hin
    generalize atN (lessO T d) T T.length = m at hin hle2
    have hrow : ∀ r ∈ T.map dcRow, r.length = 10 := fun r hr => by
      obtain ⟨x, _, rfl⟩ := List.mem_map.1 hr; rfl
    have htT : List.take T.length (T.map dcRow) = T.map dcRow := List.take_of_length_le (by simp)
    simp +decide -dsimp -implicitDefEqProofs [go_sem, maxLen, dcRow_eq]
    refine ⟨hle2, fun r hr => hrow r (List.mem_of_mem_take hr), ⟨by omega, by omega⟩, ⟨by omega, by omega⟩, hle2, fun r hr => hrow r (List.mem_of_mem_take (List.mem_of_mem_drop hr)), ⟨by omega, by omega⟩, ?_, ?_, hcl _ _⟩
    · rw [hin]; simp; omega
    · rw [hin, htT]; simp [dcRow, List.map_take, List.map_drop]
end Go.Ab
namespace Go.Ab
open Go Go.Proofs Go.Sort
set_option maxRecDepth 20000
structure SS where
  out : List (Txt × Txt)
  done : Bool
  i : Nat
structure SS.ok (l : List (Txt × Txt)) (n v : Txt) (s : SS) : Prop where
  h : s.i ≤ l.length
  o : s.out.length ≤ 2 * s.i
  e : setA l n v = s.out ++ setG n v s.done (l.drop s.i)
set_option maxHeartbeats 4000000 in
theorem set_c (l : List (Txt × Txt)) (n v : Txt) (hl : l.length ≤ 100000) : ACalls Tryz.prog 69 [.imm (l.map aRow), .str n, .str v] [] (.imm ((setA l n v).map aRow)) [] := by
  have hcl := fun k (l : List (Txt × Txt)) => aRows_cl k l
  have hae : ∀ p : Txt × Txt, aRow p = [.str p.1, .str p.2] := fun _ => rfl
  have hac : ∀ k (p : Txt × Txt), closedL k (aRow p) = true := fun k p => by simp [aRow, closedL, closed]
  have hls : ∀ a b : List UInt8, Op.bytesLess a b = decide (a < b) := fun a b => bytesLess_eq a b
  refine acalls_F c69_ok rfl ?_
  unfold c69
  have hv0 : decide (v = []) = (v == []) := by rw [Bool.eq_iff_iff]; simp
  simp +decide -dsimp -implicitDefEqProofs [go_sem]
  refine loop_of (S := SS) (fun s => ⟨tmps 58 [(0, .imm (l.map aRow)), (1, .str n), (2, .str v), (7, .own 0 s.out.length), (8, .bool s.done), (9, .int .i64 s.i)], [.reg 145 2 (s.out.map aRow)]⟩) (fun s => l.length - s.i) (SS.ok l n v) ⟨[], decide (v = []), 0⟩ ⟨by simp, by simp, rfl⟩ ((Wk.nilT 7 145 2 rfl (by simp)).trans (cut_of (by simp) ?_)) ?_
  · simp +decide -dsimp -implicitDefEqProofs [go_sem, hcl, hv0]
    try (rw [Bool.eq_iff_iff]; simp)
  rintro ⟨out, done, i⟩ ⟨hi, ho, he⟩
  simp only at hi ho he
  by_cases h : i < l.length
  · have wi : IntKind.i64.wrap ((i : Int) + 1) = i + 1 := w64 (by omega) (by omega)
    rw [List.drop_eq_getElem_cons h, setG] at he
    by_cases hlt : l[i].1 < n
    · have hne : ¬ l[i].1 = n := fun e => by rw [e] at hlt; exact List.lt_irrefl _ hlt
      simp only [hlt, decide_true, Bool.not_true, Bool.and_false, Bool.or_false, Bool.false_eq_true, if_false, List.nil_append, hne] at he
      rw [← List.append_assoc] at he
      have ha : out.map aRow ++ [[.str l[i].1, .str l[i].2]] = (out ++ [l[i]]).map aRow := by simp [aRow]
      cases done with
      | true =>
        simp +decide -dsimp -implicitDefEqProofs [go_sem, h, hae, hne, maxLen, wi]
        refine ⟨⟨by omega, by omega⟩, ?_⟩
        rw [ha]
        refine next_of ⟨out ++ [l[i]], true, i + 1⟩ ⟨by show i + 1 ≤ l.length; omega, by show (out ++ [l[i]]).length ≤ 2 * (i + 1); simp; omega, he⟩ (by show l.length - (i + 1) < l.length - i; omega) (cut_of (by simp) ?_)
        simp +decide -dsimp -implicitDefEqProofs [go_sem, hcl, hac]
        skip
      | false =>
        simp +decide -dsimp -implicitDefEqProofs [go_sem, h, hae, hne, hls, hlt, maxLen, wi]
        refine ⟨⟨by omega, by omega⟩, ?_⟩
        rw [ha]
        refine next_of ⟨out ++ [l[i]], false, i + 1⟩ ⟨by show i + 1 ≤ l.length; omega, by show (out ++ [l[i]]).length ≤ 2 * (i + 1); simp; omega, he⟩ (by show l.length - (i + 1) < l.length - i; omega) (cut_of (by simp) ?_)
        simp +decide -dsimp -implicitDefEqProofs [go_sem, hcl, hac]
        skip
    · simp only [hlt, decide_false, Bool.not_false, Bool.and_true, Bool.or_true] at he
      cases done with
      | true =>
        simp only [Bool.not_true, Bool.false_eq_true, if_false, List.nil_append] at he
        by_cases hne : l[i].1 = n
        · simp only [hne, if_true, List.nil_append] at he
          simp +decide -dsimp -implicitDefEqProofs [go_sem, h, hae, hne, wi]
          refine next_of ⟨out, true, i + 1⟩ ⟨by show i + 1 ≤ l.length; omega, by show out.length ≤ 2 * (i + 1); omega, he⟩ (by show l.length - (i + 1) < l.length - i; omega) (cut_of (by simp) ?_)
          simp +decide -dsimp -implicitDefEqProofs [go_sem, hcl]
        · have ha : out.map aRow ++ [[.str l[i].1, .str l[i].2]] = (out ++ [l[i]]).map aRow := by simp [aRow]
          simp only [hne, if_false] at he
          rw [← List.append_assoc] at he
          simp +decide -dsimp -implicitDefEqProofs [go_sem, h, hae, hne, maxLen, wi]
          refine ⟨⟨by omega, by omega⟩, ?_⟩
          rw [ha]
          refine next_of ⟨out ++ [l[i]], true, i + 1⟩ ⟨by show i + 1 ≤ l.length; omega, by show (out ++ [l[i]]).length ≤ 2 * (i + 1); simp; omega, he⟩ (by show l.length - (i + 1) < l.length - i; omega) (cut_of (by simp) ?_)
          simp +decide -dsimp -implicitDefEqProofs [go_sem, hcl, hac]
      | false =>
        simp only [Bool.not_false, if_true] at he
        rw [← List.append_assoc] at he
        have ha1 : out.map aRow ++ [[.str n, .str v]] = (out ++ [(n, v)]).map aRow := by simp [aRow]
        have hl1 : (out ++ [(n, v)]).length = out.length + 1 := by simp
        by_cases hne : l[i].1 = n
        · simp only [hne, if_true, List.nil_append] at he
          simp +decide -dsimp -implicitDefEqProofs [go_sem, h, hae, hne, hls, List.lt_irrefl, maxLen, wi]
          refine ⟨⟨by omega, by omega⟩, ?_⟩
          rw [ha1]
          refine next_of ⟨out ++ [(n, v)], true, i + 1⟩ ⟨by show i + 1 ≤ l.length; omega, by show (out ++ [(n, v)]).length ≤ 2 * (i + 1); rw [hl1]; omega, he⟩ (by show l.length - (i + 1) < l.length - i; omega) (cut_of (by simp) ?_)
          simp +decide -dsimp -implicitDefEqProofs [go_sem, hcl, hac]
        · have ha : (out ++ [(n, v)]).map aRow ++ [[.str l[i].1, .str l[i].2]] = (out ++ [(n, v)] ++ [l[i]]).map aRow := by simp [aRow]
          simp only [hne, if_false] at he
          rw [← List.append_assoc] at he
          simp +decide -dsimp -implicitDefEqProofs [go_sem, h, hae, hne, hls, hlt, maxLen, wi]
          refine ⟨⟨by omega, by omega⟩, ⟨by omega, by omega⟩, ?_⟩
          skip
          refine next_of ⟨out ++ [(n, v)] ++ [l[i]], true, i + 1⟩ ⟨by show i + 1 ≤ l.length; omega, by show (out ++ [(n, v)] ++ [l[i]]).length ≤ 2 * (i + 1); simp; omega, he⟩ (by show l.length - (i + 1) < l.length - i; omega) (cut_of (by simp) ?_)
          simp +decide -dsimp -implicitDefEqProofs [go_sem, hcl, aRow]
  · have e : i = l.length := by omega
    subst e
    rw [List.drop_length, setG] at he
    cases done with
    | true =>
      simp only [if_true, List.append_nil] at he
      rw [he]
      simp +decide -dsimp -implicitDefEqProofs [go_sem, hcl]
    | false =>
      simp only [Bool.false_eq_true, if_false] at he
      rw [he]
      simp +decide -dsimp -implicitDefEqProofs [go_sem, hcl, hac, maxLen]
      exact ⟨⟨by omega, by omega⟩, rfl⟩
end Go.Ab
