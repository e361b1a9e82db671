/- The nodes and claims of records: the map of records. -/
import Derived.Test.YtnibflopkjghcaaGreatDoorX2
import Derived.Test.YtnibflopkjghcaaGreatDoorC3
namespace Go.Ab
open Go Go.Proofs Go.Sort
set_option maxRecDepth 20000
def kvR (r : Rcd) : AV × AV := (.int .i64 r.idx, .iptr (rcRow r))
theorem find_kvR (n : Int) : ∀ l : List Rcd, findKv (.int .i64 n) (l.map kvR) = (ofR l n).map fun r => AV.iptr (rcRow r)
  | [] => rfl
  | r :: l => by
    have ih := find_kvR n l
    unfold ofR at ih ⊢
    rw [List.map_cons, findKv, List.find?_cons]
    by_cases h : r.idx = n
    · simp [kvR, keyB, scalarEq, h]
    · have h2 : ¬ n = r.idx := fun e => h e.symm
      simp [kvR, keyB, scalarEq, h, h2]
      simpa [kvR] using ih
theorem set_kvR (r : Rcd) : ∀ l : List Rcd, (∀ q ∈ l, q.idx ≠ r.idx) → setKv (.int .i64 r.idx) (.iptr (rcRow r)) (l.map kvR) = (l ++ [r]).map kvR
  | [], _ => rfl
  | q :: l, h => by
    have ih := set_kvR r l fun x hx => h x (by simp [hx])
    have h2 : ¬ r.idx = q.idx := fun e => h q (by simp) e.symm
    rw [List.map_cons, setKv]
    simp [kvR, keyB, scalarEq, h2]
    simpa [kvR] using ih
theorem keys_kvR (n : Int) (l : List Rcd) : keysOk (.int .i64) (.int .i64 n) (l.map kvR) := by
  refine ⟨by simp [keyOk], fun p hp => ?_⟩
  obtain ⟨r, _, rfl⟩ := List.mem_map.1 hp
  simp [kvR, keyOk]
theorem kvR_clm (k : Nat) (l : List Rcd) : ∀ a b : AV, (a, b) ∈ l.map kvR → closed k a = true ∧ closed k b = true := fun a b h => by
  obtain ⟨r, _, e⟩ := List.mem_map.1 h
  cases e
  exact ⟨rfl, by simp [closed, rcRow_cl]⟩
theorem mkN_take (T : List Dvc) (rs : List Rcd) {i : Nat} (h : i < T.length) : mkN (T.take (i + 1)) rs = mkN (T.take i) rs ++ ndOf rs T[i] := by
  rw [mkN, List.take_succ_eq_append_getElem h, List.flatMap_append]; simp [mkN]
theorem mkC_take (T : List Dvc) (rs : List Rcd) {i : Nat} (h : i < T.length) : mkC (T.take (i + 1)) rs = mkC (T.take i) rs ++ clOfD rs T[i] := by
  rw [mkC, List.take_succ_eq_append_getElem h, List.flatMap_append]; simp [mkC]
theorem ndRow_eq (n : Nd) : ndRow n = [.str n.name, .int .i64 n.kind, .int .i64 n.num, .str n.owner, .str n.group, .int .i64 n.mode, .str n.path] := rfl
theorem ndRow_cl (k : Nat) (n : Nd) : closedL k (ndRow n) = true := by simp [ndRow, closedL, closed]
theorem ndRows_cl (k : Nat) (l : List Nd) : closedLL k (l.map ndRow) = true := closedLL_map fun x _ => ndRow_cl k x
theorem ndRow_ren (is : List Nat) (n : Nd) : renL is (ndRow n) = ndRow n := by simp [ndRow, renL, ren]
theorem renLL_ndRows (is : List Nat) (l : List Nd) : renLL is (l.map ndRow) = l.map ndRow := by
  induction l with
  | nil => rfl
  | cons x r ih => simp [renLL, ih, ndRow_ren]
theorem mkStep_c (n : Nd) (r : Rcd) (l : List Nd) (hl : l.length ≤ 1000) :
    ACalls Tryz.prog 41 [.ptr 0 0, .iptr (rcRow r), .ptr 1 0] [.box 59 (ndRow n), .box 33 [.own 2 l.length], .reg 59 7 (l.map ndRow)] (.tup []) [.box 59 (ndRow n), .box 33 [.own 2 (l.length + 1)], .reg 59 7 ((l ++ [n]).map ndRow)] := by
  have hnc := fun k (l : List Nd) => ndRows_cl k l
  refine acalls_F c41_ok rfl ?_
  unfold c41
  rw [ndRow_eq]
  simp +decide -dsimp -implicitDefEqProofs [go_sem, maxLen]
  refine ⟨⟨by omega, by omega⟩, ?_⟩
  have ha : l.map ndRow ++ [[.str n.name, .int .i64 n.kind, .int .i64 n.num, .str n.owner, .str n.group, .int .i64 n.mode, .str n.path]] = (l ++ [n]).map ndRow := by simp [ndRow]
  simp +decide -dsimp -implicitDefEqProofs [go_sem, hnc]
  rfl
end Go.Ab
namespace Go.Ab
open Go Go.Proofs Go.Sort
set_option maxRecDepth 20000
set_option maxHeartbeats 16000000 in
theorem eachN_c (T : List Dvc) (rs : List Rcd) (hS : ∀ d ∈ T, d.orig ∈ oS) (hl : T.length ≤ 100) (hr : rs.length ≤ 100) (hnd : rs.Pairwise fun a b => a.idx ≠ b.idx) :
    ACalls Tryz.prog 40 [.agg [.imm (T.map dcRow)], .imm (rs.map rcRow), .fn (.func 41) [] [.ptr 0 0]] [.box 33 [.own 1 0], .reg 59 7 []] (.tup []) [.box 33 [.own 1 (mkN T rs).length], .reg 59 7 ((mkN T rs).map ndRow)] := by
  have hcl := fun k (T : List Dvc) => dcRows_cl k T
  have hrl := fun k (l : List Rcd) => rcRows_cl k l
  have hnl := fun k (l : List Nd) => ndRows_cl k l
  have hkv : ∀ k x, closed k (kvR x).1 = true ∧ closed k (kvR x).2 = true := fun k x => ⟨rfl, by simp [kvR, closed, rcRow_cl]⟩
  refine acalls_A c40_ok rfl ?_
  unfold c40
  refine awp_cut ⟨tmps 78 [(1, .imm (rs.map rcRow)), (2, .fn (.func 41) [] [.ptr 0 0]), (3, .ptr 2 0)], [.box 33 [.own 1 0], .reg 59 7 [], .box 28 [.imm (T.map dcRow)]]⟩ (awp_of ?_) ?_
  · simp +decide -dsimp -implicitDefEqProofs [go_sem]
    refine cut_of (by simp) ?_
    simp +decide -dsimp -implicitDefEqProofs [go_sem, hcl, hrl]
  refine awp_cut ⟨tmps 78 [(1, .imm (rs.map rcRow)), (2, .fn (.func 41) [] [.ptr 0 0]), (3, .ptr 2 0), (6, .map 3)], [.box 33 [.own 1 0], .reg 59 7 [], .box 28 [.imm (T.map dcRow)], .map []]⟩ (awp_of ?_) ?_
  · simp +decide -dsimp -implicitDefEqProofs [go_sem]
    refine cut_of (by simp) ?_
    simp +decide -dsimp -implicitDefEqProofs [go_sem, hcl, hrl]
  refine awp_cut ⟨tmps 78 [(2, .fn (.func 41) [] [.ptr 0 0]), (3, .ptr 2 0), (6, .map 3)], [.box 33 [.own 1 0], .reg 59 7 [], .box 28 [.imm (T.map dcRow)], .map (rs.map kvR)]⟩ (awp_of ?_) ?_
  · simp +decide -dsimp -implicitDefEqProofs [go_sem]
    refine loop_of (S := Nat) (fun i => ⟨tmps 78 [(1, .imm (rs.map rcRow)), (2, .fn (.func 41) [] [.ptr 0 0]), (3, .ptr 2 0), (6, .map 3), (15, .int .i64 rs.length), (16, .int .i64 i)], [.box 33 [.own 1 0], .reg 59 7 [], .box 28 [.imm (T.map dcRow)], .map ((rs.take i).map kvR)]⟩) (fun i => rs.length - i) (fun i => i ≤ rs.length) 0 (by simp) (cut_of (by simp) ?_) ?_
    · simp +decide -dsimp -implicitDefEqProofs [go_sem, hcl, hrl]
    intro i hi
    by_cases h : i < rs.length
    · have wi : IntKind.i64.wrap ((i : Int) + 1) = i + 1 := w64 (by omega) (by omega)
      have hset := set_kvR rs[i] (rs.take i) fun q hq => by
        obtain ⟨x, hx, rfl⟩ := List.mem_iff_getElem.1 hq
        rw [List.length_take] at hx
        rw [List.getElem_take]
        exact List.pairwise_iff_getElem.1 hnd x i (by omega) h (by omega)
      rw [← List.take_succ_eq_append_getElem h] at hset
      have hk := keys_kvR rs[i].idx (rs.take i)
      generalize hA : (rs.take i).map kvR = A at hset hk
      generalize hB : (rs.take (i + 1)).map kvR = B at hset
      have hBc : ∀ k a b, (a, b) ∈ B → closed k a = true ∧ closed k b = true := fun k a b hm => by rw [← hB] at hm; exact kvR_clm k _ a b hm
      rw [rcRow_eq] at hset
      simp +decide -dsimp -implicitDefEqProofs [go_sem, h, rcRow_eq, hk, hset, wi]
      refine next_of (i + 1) (by show i + 1 ≤ rs.length; omega) (by show rs.length - (i + 1) < rs.length - i; omega) (cut_of (by simp) ?_)
      rw [hB]
      simp +decide -dsimp -implicitDefEqProofs [go_sem, hcl, hrl]
      try exact fun a b => hBc _ a b
    · have e : i = rs.length := by omega
      subst e
      rw [List.take_length]
      simp +decide -dsimp -implicitDefEqProofs [go_sem]
      refine cut_of (by simp) ?_
      simp +decide -dsimp -implicitDefEqProofs [go_sem, hcl, hkv]
  refine awp_of ?_
  simp +decide -dsimp -implicitDefEqProofs [go_sem]
  refine loop_of (S := Nat) (fun i => ⟨tmps 78 [(2, .fn (.func 41) [] [.ptr 0 0]), (3, .ptr 2 0), (6, .map 3), (30, .imm (T.map dcRow)), (31, .int .i64 T.length), (32, .int .i64 i)], [.box 33 [.own 1 (mkN (T.take i) rs).length], .reg 59 7 ((mkN (T.take i) rs).map ndRow), .box 28 [.imm (T.map dcRow)], .map (rs.map kvR)]⟩) (fun i => T.length - i) (fun i => i ≤ T.length) 0 (by simp) (cut_of (by simp) ?_) ?_
  · simp +decide -dsimp -implicitDefEqProofs [go_sem, hcl, hkv, mkN]
  intro i hi
  by_cases h : i < T.length
  · have wi : IntKind.i64.wrap ((i : Int) + 1) = i + 1 := w64 (by omega) (by omega)
    have hdT : T[i] ∈ T := List.getElem_mem h
    have cd := dnode_c T[i] (hS _ hdT)
    have hda := fun k => aRows_cl k T[i].attrs
    have htk := mkN_take T rs h
    have hll := mkN_len (T := T.take i) (rs := rs)
    have hfd := find_kvR T[i].idx rs
    have hko := keys_kvR T[i].idx rs
    rw [List.length_take] at hll
    generalize mkN (T.take i) rs = L at htk hll
    generalize hL' : mkN (T.take (i + 1)) rs = L' at htk
    generalize hM : rs.map kvR = M at hfd hko
    have hMc : ∀ k a b, (a, b) ∈ M → closed k a = true ∧ closed k b = true := fun k a b hm => by rw [← hM] at hm; exact kvR_clm k _ a b hm
    rw [dcRow_eq] at cd
    unfold ndOf at htk
    simp +decide -dsimp -implicitDefEqProofs [go_sem, h, dcRow_eq]
    cases hn : nodeD T[i] with
    | none =>
      rw [hn] at cd htk
      simp only [List.append_nil] at htk
      subst htk
      generalize htv : ndV none = tv at cd
      refine callE_pure cd (by simp +decide -dsimp -implicitDefEqProofs [go_sem, hda]) (by rw [← htv]; rfl) ?_
      subst htv
      unfold ndV
      simp +decide -dsimp -implicitDefEqProofs [go_sem, hko, hfd, wi]
      refine next_of (i + 1) (by show i + 1 ≤ T.length; omega) (by show T.length - (i + 1) < T.length - i; omega) (cut_of (by simp) ?_)
      rw [hL']
      simp +decide -dsimp -implicitDefEqProofs [go_sem, hcl, hnl]
      exact fun a b => hMc _ a b
    | some s =>
      rw [hn] at cd htk
      generalize htv : ndV (some s) = tv at cd
      refine callE_pure cd (by simp +decide -dsimp -implicitDefEqProofs [go_sem, hda]) (by rw [← htv]; rfl) ?_
      subst htv
      unfold ndV
      cases ho : ofR rs T[i].idx with
      | none =>
        rw [ho] at hfd htk
        simp only [List.append_nil] at htk
        subst htk
        simp +decide -dsimp -implicitDefEqProofs [go_sem, hko, hfd, wi]
        refine next_of (i + 1) (by show i + 1 ≤ T.length; omega) (by show T.length - (i + 1) < T.length - i; omega) (cut_of (by simp) ?_)
        rw [hL']
        simp +decide -dsimp -implicitDefEqProofs [go_sem, hcl, hnl]
        exact fun a b => hMc _ a b
      | some r =>
        rw [ho] at hfd htk
        simp only at htk
        simp only [Option.map_some, rcRow_eq] at hfd
        have hstep := mkStep_c ⟨s, T[i].kind, T[i].num, r.owner, r.group, r.mode, r.path⟩ r L (by omega)
        rw [← htk] at hstep
        have hL2 : L'.length = L.length + 1 := by rw [htk]; simp
        rw [ndRow_eq, rcRow_eq] at hstep
        have hna := fun k => aRows_cl k r.props
        simp +decide -dsimp -implicitDefEqProofs [go_sem, hko, hfd]
        refine callDE_frame [5, 0, 1] hstep rfl rfl (by simp) (by simp +decide -dsimp -implicitDefEqProofs [go_sem, renLL_aRows]) (by simp +decide -dsimp -implicitDefEqProofs [go_sem, renLL_ndRows]) ?_
        simp +decide -dsimp -implicitDefEqProofs [go_sem, renLL_ndRows, wi]
        refine next_of (i + 1) (by show i + 1 ≤ T.length; omega) (by show T.length - (i + 1) < T.length - i; omega) (cut_of (by simp) ?_)
        rw [hL', hL2]
        simp +decide -dsimp -implicitDefEqProofs [go_sem, hcl, hnl]
        exact fun a b => hMc _ a b
  · have e : i = T.length := by omega
    subst e
    rw [List.take_length]
    simp +decide -dsimp -implicitDefEqProofs [go_sem, hnl]
end Go.Ab
namespace Go.Ab
open Go Go.Proofs Go.Sort
set_option maxRecDepth 20000
set_option maxHeartbeats 4000000 in
theorem make_c (T : List Dvc) (rs : List Rcd) (hS : ∀ d ∈ T, d.orig ∈ oS) (hl : T.length ≤ 100) (hr : rs.length ≤ 100) (hnd : rs.Pairwise fun a b => a.idx ≠ b.idx) :
    ACalls Tryz.prog 13 [.agg [.imm (T.map dcRow)], .imm (rs.map rcRow)] [] (.imm ((mkN T rs).map ndRow)) [] := by
  have hcl := fun k (T : List Dvc) => dcRows_cl k T
  have hrl := fun k (l : List Rcd) => rcRows_cl k l
  have hnl := fun k (l : List Nd) => ndRows_cl k l
  have ce := eachN_c T rs hS hl hr hnd
  refine acalls_A c13_ok rfl ?_
  unfold c13
  refine awp_cut ⟨tmps 11 [(1, .imm (rs.map rcRow)), (2, .ptr 0 0)], [.box 28 [.imm (T.map dcRow)]]⟩ (awp_of ?_) ?_
  · simp +decide -dsimp -implicitDefEqProofs [go_sem]
    refine cut_of (by simp) ?_
    simp +decide -dsimp -implicitDefEqProofs [go_sem, hcl, hrl]
  refine awp_cut ⟨tmps 11 [(1, .imm (rs.map rcRow)), (2, .ptr 0 0), (5, .ptr 1 0)], [.box 28 [.imm (T.map dcRow)], .box 33 [.own 2 0], .reg 59 7 []]⟩ (awp_of ?_) ?_
  · simp +decide -dsimp -implicitDefEqProofs [go_sem]
    refine (Wk.nilB 1 0 59 7 rfl rfl (by simp)).trans (cut_of (by simp) ?_)
    simp +decide -dsimp -implicitDefEqProofs [go_sem, hcl, hrl]
  refine awp_of ?_
  simp +decide -dsimp -implicitDefEqProofs [go_sem]
  refine callE_frame [1, 2] ce rfl rfl (by simp) (by simp +decide -dsimp -implicitDefEqProofs [go_sem, renLL_dcRows, renLL_rcRows]) (by simp +decide -dsimp -implicitDefEqProofs [go_sem]) ?_
  simp +decide -dsimp -implicitDefEqProofs [go_sem, renLL_ndRows, hnl]
def ofV (o : Option Rcd) : AV := match o with | some r => .tup [.agg (rcRow r), .bool true] | none => .tup [.agg zR, .bool false]
set_option maxHeartbeats 4000000 in
theorem of_c (rs : List Rcd) (n : Int) (hl : rs.length ≤ 1000) : ACalls Tryz.prog 42 [.imm (rs.map rcRow), .int .i64 n] [] (ofV (ofR rs n)) [] := by
  have hrl := fun k (l : List Rcd) => rcRows_cl k l
  refine acalls_F c42_ok rfl ?_
  unfold c42
  simp +decide -dsimp -implicitDefEqProofs [go_sem]
  refine loop_of (S := Nat) (fun i => ⟨tmps 25 [(0, .imm (rs.map rcRow)), (1, .int .i64 n), (4, .ptr 0 0), (6, .int .i64 i)], [.box 65 zR]⟩) (fun i => rs.length - i) (fun i => i ≤ rs.length ∧ ∀ x ∈ rs.take i, decide (x.idx = n) = false) 0 (by simp) (cut_of (by simp) ?_) ?_
  · simp +decide -dsimp -implicitDefEqProofs [go_sem, hrl, zR]
  intro i hi
  by_cases h : i < rs.length
  · have wi : IntKind.i64.wrap ((i : Int) + 1) = i + 1 := w64 (by omega) (by omega)
    by_cases hp : rs[i].idx = n
    · have hof : ofR rs n = some rs[i] := List.find?_eq_some_iff_getElem.2 ⟨decide_eq_true hp, i, h, rfl, fun j hj => by
        have := hi.2 rs[j] (by rw [List.mem_take_iff_getElem]; exact ⟨j, by omega, rfl⟩)
        simpa using this⟩
      have hac := fun k => aRows_cl k rs[i].props
      rw [hof]
      unfold ofV
      simp +decide -dsimp -implicitDefEqProofs [go_sem, h, rcRow_eq, hp, zR, hac]
      try exact hp.symm
    · simp +decide -dsimp -implicitDefEqProofs [go_sem, h, rcRow_eq, hp, wi]
      refine next_of (i + 1) ⟨by omega, fun x hx => ?_⟩ (by omega) (cut_of (by simp) ?_)
      · rw [List.take_succ_eq_append_getElem h] at hx
        rcases List.mem_append.1 hx with hx | hx
        · exact hi.2 x hx
        · simp at hx; subst hx; simpa using hp
      simp +decide -dsimp -implicitDefEqProofs [go_sem, hrl, zR]
  · have e : i = rs.length := by omega
    have h2 := hi.2
    rw [e, List.take_length] at h2
    have h3 : ofR rs n = none := List.find?_eq_none.2 fun x hx => by simpa using h2 x hx
    rw [h3]
    unfold ofV
    simp +decide -dsimp -implicitDefEqProofs [go_sem, h, zR]
set_option maxHeartbeats 8000000 in
theorem rMake_c (T : List Dvc) (rs : List Rcd) (hS : ∀ d ∈ T, d.orig ∈ oS) (hl : T.length ≤ 100) (hr : rs.length ≤ 100) :
    ACalls Tryz.prog 14 [.agg [.imm (T.map dcRow)], .imm (rs.map rcRow)] [] (.imm ((mkN T rs).map ndRow)) [] := by
  have hcl := fun k (T : List Dvc) => dcRows_cl k T
  have hrl := fun k (l : List Rcd) => rcRows_cl k l
  have hnl := fun k (l : List Nd) => ndRows_cl k l
  refine acalls_F c14_ok rfl ?_
  unfold c14
  simp +decide -dsimp -implicitDefEqProofs [go_sem]
  refine loop_of (S := Nat) (fun i => ⟨tmps 58 [(1, .imm (rs.map rcRow)), (2, .ptr 0 0), (5, .own 1 (mkN (T.take i) rs).length), (6, .int .i64 i)], [.box 28 [.imm (T.map dcRow)], .reg 59 7 ((mkN (T.take i) rs).map ndRow)]⟩) (fun i => T.length - i) (fun i => i ≤ T.length) 0 (by simp) ((Wk.nilT 5 59 7 rfl (by simp)).trans (cut_of (by simp) ?_)) ?_
  · simp +decide -dsimp -implicitDefEqProofs [go_sem, hcl, hrl, mkN]
  intro i hi
  by_cases h : i < T.length
  · have wi : IntKind.i64.wrap ((i : Int) + 1) = i + 1 := w64 (by omega) (by omega)
    have hdT : T[i] ∈ T := List.getElem_mem h
    have cd := node_c T[i] (hS _ hdT)
    have co := of_c rs T[i].idx (by omega)
    have hda := fun k => aRows_cl k T[i].attrs
    have htk := mkN_take T rs h
    have hll := mkN_len (T := T.take i) (rs := rs)
    rw [List.length_take] at hll
    generalize mkN (T.take i) rs = L at htk hll
    generalize hL' : mkN (T.take (i + 1)) rs = L' at htk
    rw [dcRow_eq] at cd
    unfold ndOf at htk
    simp +decide -dsimp -implicitDefEqProofs [go_sem, h, dcRow_eq]
    cases ho : ofR rs T[i].idx with
    | none =>
      have htk : L' = L := by rw [htk, ho]; cases nodeD T[i] <;> simp
      subst htk
      rw [ho] at co
      generalize htv : ofV none = tv at co
      refine callE_pure co (by simp +decide -dsimp -implicitDefEqProofs [go_sem, hrl]) (by rw [← htv]; rfl) ?_
      subst htv
      unfold ofV
      simp +decide -dsimp -implicitDefEqProofs [go_sem, zR]
      generalize htv : ndV (nodeD T[i]) = tv at cd
      have hcv : closed 0 tv = true := by rw [← htv]; cases nodeD T[i] <;> rfl
      have htv2 : ∃ s b, tv = .tup [.str s, .bool b] := by rw [← htv]; cases nodeD T[i] <;> exact ⟨_, _, rfl⟩
      refine callE_pure cd (by simp +decide -dsimp -implicitDefEqProofs [go_sem, hda]) hcv ?_
      obtain ⟨s, b, htv2⟩ := htv2
      rw [htv2]
      simp +decide -dsimp -implicitDefEqProofs [go_sem, wi]
      refine next_of (i + 1) (by show i + 1 ≤ T.length; omega) (by show T.length - (i + 1) < T.length - i; omega) (cut_of (by simp) ?_)
      rw [hL']
      simp +decide -dsimp -implicitDefEqProofs [go_sem, hcl, hrl, hnl]
    | some r =>
      rw [ho] at co htk
      have hna := fun k => aRows_cl k r.props
      generalize htv : ofV (some r) = tv at co
      refine callE_pure co (by simp +decide -dsimp -implicitDefEqProofs [go_sem, hrl]) (by rw [← htv]; simp +decide [ofV, closed, closedL, rcRow_cl]) ?_
      subst htv
      unfold ofV
      simp +decide -dsimp -implicitDefEqProofs [go_sem, rcRow_eq]
      cases hn : nodeD T[i] with
      | none =>
        rw [hn] at cd htk
        simp only [List.append_nil] at htk
        subst htk
        generalize htv : ndV none = tv at cd
        refine callE_pure cd (by simp +decide -dsimp -implicitDefEqProofs [go_sem, hda]) (by rw [← htv]; rfl) ?_
        subst htv
        unfold ndV
        simp +decide -dsimp -implicitDefEqProofs [go_sem, wi]
        refine next_of (i + 1) (by show i + 1 ≤ T.length; omega) (by show T.length - (i + 1) < T.length - i; omega) (cut_of (by simp) ?_)
        rw [hL']
        simp +decide -dsimp -implicitDefEqProofs [go_sem, hcl, hrl, hnl]
      | some s =>
        rw [hn] at cd htk
        simp only at htk
        have ha : L.map ndRow ++ [[.str s, .int .i64 T[i].kind, .int .i64 T[i].num, .str r.owner, .str r.group, .int .i64 r.mode, .str r.path]] = L'.map ndRow := by rw [htk]; simp [ndRow]
        have hL2 : L'.length = L.length + 1 := by rw [htk]; simp
        generalize htv : ndV (some s) = tv at cd
        refine callE_pure cd (by simp +decide -dsimp -implicitDefEqProofs [go_sem, hda]) (by rw [← htv]; rfl) ?_
        subst htv
        unfold ndV
        simp +decide -dsimp -implicitDefEqProofs [go_sem, wi, maxLen]
        refine ⟨⟨by omega, by omega⟩, ?_⟩
        rw [ha]
        refine next_of (i + 1) (by show i + 1 ≤ T.length; omega) (by show T.length - (i + 1) < T.length - i; omega) (cut_of (by simp) ?_)
        rw [hL', hL2]
        simp +decide -dsimp -implicitDefEqProofs [go_sem, hcl, hrl, hnl]
  · have e : i = T.length := by omega
    subst e
    rw [List.take_length]
    simp +decide -dsimp -implicitDefEqProofs [go_sem, hnl]
theorem sameNodes_c (l : List Nd) (hn : l.length ≤ 100000) : ACalls Tryz.prog 12 [.imm (l.map ndRow), .imm (l.map ndRow)] [] (.bool true) [] := by
  have hlc := fun k (l : List Nd) => ndRows_cl k l
  refine acalls_F c12_ok rfl ?_
  unfold c12
  simp +decide -dsimp -implicitDefEqProofs [go_sem]
  refine loop_of (S := Nat) (fun i => ⟨tmps 26 [(0, .imm (l.map ndRow)), (1, .imm (l.map ndRow)), (5, .int .i64 i)], []⟩) (fun i => l.length - i) (fun i => i ≤ l.length) 0 (by simp) (cut_of (by simp) ?_) ?_
  · simp +decide -dsimp -implicitDefEqProofs [go_sem, hlc]
  intro i hi
  by_cases h : i < l.length
  · have w : IntKind.i64.wrap ((i : Int) + 1) = i + 1 := w64 (by omega) (by omega)
    simp +decide -dsimp -implicitDefEqProofs [go_sem, h, w, ndRow]
    refine next_of (i + 1) (by show i + 1 ≤ l.length; omega) (by show l.length - (i + 1) < l.length - i; omega) (cut_of (by simp) ?_)
    simp +decide -dsimp -implicitDefEqProofs [go_sem, hlc]
  · have e : i = l.length := by omega
    subst e
    simp +decide -dsimp -implicitDefEqProofs [go_sem]
end Go.Ab
namespace Go.Ab
open Go Go.Proofs Go.Sort
set_option maxRecDepth 20000
def clsOf (r : Rcd) (s : Txt) : List Cl := r.links.map fun x => ⟨x, r.path, s, r.prio⟩
set_option maxHeartbeats 4000000 in
theorem kcStep_c (n : Nd) (r : Rcd) (l : List Cl) (hl : l.length ≤ 10000) (hr : r.links.length ≤ 100) :
    ACalls Tryz.prog 44 [.ptr 0 0, .iptr (rcRow r), .ptr 1 0] [.box 59 (ndRow n), .box 36 [.own 2 l.length], .reg 84 4 (l.map clRow)] (.tup []) [.box 59 (ndRow n), .box 36 [.own 2 (l ++ clsOf r n.name).length], .reg 84 4 ((l ++ clsOf r n.name).map clRow)] := by
  have hcc := closedLL_clRows
  have hac := fun k => aRows_cl k r.props
  refine acalls_F c44_ok rfl ?_
  unfold c44
  rw [ndRow_eq, rcRow_eq]
  simp +decide -dsimp -implicitDefEqProofs [go_sem]
  refine loop_of (S := Nat) (fun i => ⟨tmps 34 [(0, .ptr 0 0), (1, .iptr (rcRow r)), (2, .ptr 1 0), (10, .imm (r.links.map sRow)), (11, .int .i64 r.links.length), (12, .int .i64 i)], [.box 59 (ndRow n), .box 36 [.own 2 (l ++ (clsOf r n.name).take i).length], .reg 84 4 ((l ++ (clsOf r n.name).take i).map clRow)]⟩) (fun i => r.links.length - i) (fun i => i ≤ r.links.length) 0 (by simp) (cut_of (by simp) ?_) ?_
  · simp +decide -dsimp -implicitDefEqProofs [go_sem, hcc, ndRow_eq, rcRow_eq, hac]
  intro i hi
  have hcl2 : (clsOf r n.name).length = r.links.length := by simp [clsOf]
  by_cases h : i < r.links.length
  · have wi : IntKind.i64.wrap ((i : Int) + 1) = i + 1 := w64 (by omega) (by omega)
    have hca : (clsOf r n.name).take (i + 1) = (clsOf r n.name).take i ++ [⟨r.links[i], r.path, n.name, r.prio⟩] := by
      rw [List.take_succ_eq_append_getElem (by omega)]; simp [clsOf]
    have hol3 : (l ++ (clsOf r n.name).take i).length ≤ 11000 := by rw [List.length_append, List.length_take]; omega
    have ha : (l ++ (clsOf r n.name).take i).map clRow ++ [[.str r.links[i], .str r.path, .str n.name, .int .i64 r.prio]] = (l ++ (clsOf r n.name).take (i + 1)).map clRow := by rw [hca, ← List.append_assoc, List.map_append (l₂ := [_])]; rfl
    have hl4 : (l ++ (clsOf r n.name).take (i + 1)).length = (l ++ (clsOf r n.name).take i).length + 1 := by rw [hca]; simp; omega
    generalize l ++ (clsOf r n.name).take i = o1 at ha hol3 hl4
    obtain ⟨o2, ho2⟩ : ∃ o2, o2 = l ++ (clsOf r n.name).take (i + 1) := ⟨_, rfl⟩
    rw [← ho2] at ha hl4
    simp +decide -dsimp -implicitDefEqProofs [go_sem, h, rcRow_eq, ndRow_eq, maxLen, wi]
    refine ⟨⟨by omega, by omega⟩, ?_⟩
    rw [ha]
    refine next_of (i + 1) (by show i + 1 ≤ r.links.length; omega) (by show r.links.length - (i + 1) < r.links.length - i; omega) (cut_of (by simp) ?_)
    rw [← ho2, hl4]
    simp +decide -dsimp -implicitDefEqProofs [go_sem, hcc, ndRow_eq, rcRow_eq, hac]
  · have e : i = r.links.length := by omega
    subst e
    rw [List.take_of_length_le (by rw [hcl2]; exact Nat.le_refl _)]
    simp +decide -dsimp -implicitDefEqProofs [go_sem, hcc, ndRow_eq]
set_option maxHeartbeats 16000000 in
theorem eachC_c (T : List Dvc) (rs : List Rcd) (hS : ∀ d ∈ T, d.orig ∈ oS) (hl : T.length ≤ 100) (hr : rs.length ≤ 100) (hnd : rs.Pairwise fun a b => a.idx ≠ b.idx) (hB : ∀ r ∈ rs, r.links.length ≤ 16) :
    ACalls Tryz.prog 40 [.agg [.imm (T.map dcRow)], .imm (rs.map rcRow), .fn (.func 44) [] [.ptr 0 0]] [.box 36 [.own 1 0], .reg 84 4 []] (.tup []) [.box 36 [.own 1 (mkC T rs).length], .reg 84 4 ((mkC T rs).map clRow)] := by
  have hcl := fun k (T : List Dvc) => dcRows_cl k T
  have hrl := fun k (l : List Rcd) => rcRows_cl k l
  have hnl := closedLL_clRows
  have hcB : ∀ d, (clOfD rs d).length ≤ 16 := fun d => by
    unfold clOfD
    split
    · rename_i s r h1 h2; rw [List.length_map]; exact hB r (ofR_some h2).1
    · simp
  have hkv : ∀ k x, closed k (kvR x).1 = true ∧ closed k (kvR x).2 = true := fun k x => ⟨rfl, by simp [kvR, closed, rcRow_cl]⟩
  refine acalls_A c40_ok rfl ?_
  unfold c40
  refine awp_cut ⟨tmps 78 [(1, .imm (rs.map rcRow)), (2, .fn (.func 44) [] [.ptr 0 0]), (3, .ptr 2 0)], [.box 36 [.own 1 0], .reg 84 4 [], .box 28 [.imm (T.map dcRow)]]⟩ (awp_of ?_) ?_
  · simp +decide -dsimp -implicitDefEqProofs [go_sem]
    refine cut_of (by simp) ?_
    simp +decide -dsimp -implicitDefEqProofs [go_sem, hcl, hrl]
  refine awp_cut ⟨tmps 78 [(1, .imm (rs.map rcRow)), (2, .fn (.func 44) [] [.ptr 0 0]), (3, .ptr 2 0), (6, .map 3)], [.box 36 [.own 1 0], .reg 84 4 [], .box 28 [.imm (T.map dcRow)], .map []]⟩ (awp_of ?_) ?_
  · simp +decide -dsimp -implicitDefEqProofs [go_sem]
    refine cut_of (by simp) ?_
    simp +decide -dsimp -implicitDefEqProofs [go_sem, hcl, hrl]
  refine awp_cut ⟨tmps 78 [(2, .fn (.func 44) [] [.ptr 0 0]), (3, .ptr 2 0), (6, .map 3)], [.box 36 [.own 1 0], .reg 84 4 [], .box 28 [.imm (T.map dcRow)], .map (rs.map kvR)]⟩ (awp_of ?_) ?_
  · simp +decide -dsimp -implicitDefEqProofs [go_sem]
    refine loop_of (S := Nat) (fun i => ⟨tmps 78 [(1, .imm (rs.map rcRow)), (2, .fn (.func 44) [] [.ptr 0 0]), (3, .ptr 2 0), (6, .map 3), (15, .int .i64 rs.length), (16, .int .i64 i)], [.box 36 [.own 1 0], .reg 84 4 [], .box 28 [.imm (T.map dcRow)], .map ((rs.take i).map kvR)]⟩) (fun i => rs.length - i) (fun i => i ≤ rs.length) 0 (by simp) (cut_of (by simp) ?_) ?_
    · simp +decide -dsimp -implicitDefEqProofs [go_sem, hcl, hrl]
    intro i hi
    by_cases h : i < rs.length
    · have wi : IntKind.i64.wrap ((i : Int) + 1) = i + 1 := w64 (by omega) (by omega)
      have hset := set_kvR rs[i] (rs.take i) fun q hq => by
        obtain ⟨x, hx, rfl⟩ := List.mem_iff_getElem.1 hq
        rw [List.length_take] at hx
        rw [List.getElem_take]
        exact List.pairwise_iff_getElem.1 hnd x i (by omega) h (by omega)
      rw [← List.take_succ_eq_append_getElem h] at hset
      have hk := keys_kvR rs[i].idx (rs.take i)
      generalize hA : (rs.take i).map kvR = A at hset hk
      generalize hB : (rs.take (i + 1)).map kvR = B at hset
      have hBc : ∀ k a b, (a, b) ∈ B → closed k a = true ∧ closed k b = true := fun k a b hm => by rw [← hB] at hm; exact kvR_clm k _ a b hm
      rw [rcRow_eq] at hset
      simp +decide -dsimp -implicitDefEqProofs [go_sem, h, rcRow_eq, hk, hset, wi]
      refine next_of (i + 1) (by show i + 1 ≤ rs.length; omega) (by show rs.length - (i + 1) < rs.length - i; omega) (cut_of (by simp) ?_)
      rw [hB]
      simp +decide -dsimp -implicitDefEqProofs [go_sem, hcl, hrl]
      try exact fun a b => hBc _ a b
    · have e : i = rs.length := by omega
      subst e
      rw [List.take_length]
      simp +decide -dsimp -implicitDefEqProofs [go_sem]
      refine cut_of (by simp) ?_
      simp +decide -dsimp -implicitDefEqProofs [go_sem, hcl, hkv]
  refine awp_of ?_
  simp +decide -dsimp -implicitDefEqProofs [go_sem]
  refine loop_of (S := Nat) (fun i => ⟨tmps 78 [(2, .fn (.func 44) [] [.ptr 0 0]), (3, .ptr 2 0), (6, .map 3), (30, .imm (T.map dcRow)), (31, .int .i64 T.length), (32, .int .i64 i)], [.box 36 [.own 1 (mkC (T.take i) rs).length], .reg 84 4 ((mkC (T.take i) rs).map clRow), .box 28 [.imm (T.map dcRow)], .map (rs.map kvR)]⟩) (fun i => T.length - i) (fun i => i ≤ T.length) 0 (by simp) (cut_of (by simp) ?_) ?_
  · simp +decide -dsimp -implicitDefEqProofs [go_sem, hcl, hkv, mkC]
  intro i hi
  by_cases h : i < T.length
  · have wi : IntKind.i64.wrap ((i : Int) + 1) = i + 1 := w64 (by omega) (by omega)
    have hdT : T[i] ∈ T := List.getElem_mem h
    have cd := dnode_c T[i] (hS _ hdT)
    have hda := fun k => aRows_cl k T[i].attrs
    have htk := mkC_take T rs h
    have hll := flat_len (clOfD rs) 16 (l := T.take i) fun d _ => hcB d
    change (mkC (T.take i) rs).length ≤ _ at hll
    have hfd := find_kvR T[i].idx rs
    have hko := keys_kvR T[i].idx rs
    rw [List.length_take] at hll
    generalize mkC (T.take i) rs = L at htk hll
    generalize hL' : mkC (T.take (i + 1)) rs = L' at htk
    generalize hM : rs.map kvR = M at hfd hko
    have hMc : ∀ k a b, (a, b) ∈ M → closed k a = true ∧ closed k b = true := fun k a b hm => by rw [← hM] at hm; exact kvR_clm k _ a b hm
    rw [dcRow_eq] at cd
    unfold clOfD at htk
    simp +decide -dsimp -implicitDefEqProofs [go_sem, h, dcRow_eq]
    cases hn : nodeD T[i] with
    | none =>
      rw [hn] at cd htk
      simp only [List.append_nil] at htk
      subst htk
      generalize htv : ndV none = tv at cd
      refine callE_pure cd (by simp +decide -dsimp -implicitDefEqProofs [go_sem, hda]) (by rw [← htv]; rfl) ?_
      subst htv
      unfold ndV
      simp +decide -dsimp -implicitDefEqProofs [go_sem, hko, hfd, wi]
      refine next_of (i + 1) (by show i + 1 ≤ T.length; omega) (by show T.length - (i + 1) < T.length - i; omega) (cut_of (by simp) ?_)
      rw [hL']
      simp +decide -dsimp -implicitDefEqProofs [go_sem, hcl, hnl]
      exact fun a b => hMc _ a b
    | some s =>
      rw [hn] at cd htk
      generalize htv : ndV (some s) = tv at cd
      refine callE_pure cd (by simp +decide -dsimp -implicitDefEqProofs [go_sem, hda]) (by rw [← htv]; rfl) ?_
      subst htv
      unfold ndV
      cases ho : ofR rs T[i].idx with
      | none =>
        rw [ho] at hfd htk
        simp only [List.append_nil] at htk
        subst htk
        simp +decide -dsimp -implicitDefEqProofs [go_sem, hko, hfd, wi]
        refine next_of (i + 1) (by show i + 1 ≤ T.length; omega) (by show T.length - (i + 1) < T.length - i; omega) (cut_of (by simp) ?_)
        rw [hL']
        simp +decide -dsimp -implicitDefEqProofs [go_sem, hcl, hnl]
        exact fun a b => hMc _ a b
      | some r =>
        rw [ho] at hfd htk
        simp only at htk
        simp only [Option.map_some, rcRow_eq] at hfd
        have hrB := hB r (ofR_some ho).1
        have hstep := kcStep_c ⟨s, T[i].kind, T[i].num, r.owner, r.group, r.mode, r.path⟩ r L (by have : min i T.length * 16 ≤ 100 * 16 := Nat.mul_le_mul_right _ (by omega); omega) (by omega)
        change L' = L ++ clsOf r s at htk
        simp only [← htk] at hstep
        rw [ndRow_eq, rcRow_eq] at hstep
        have hna := fun k => aRows_cl k r.props
        simp +decide -dsimp -implicitDefEqProofs [go_sem, hko, hfd]
        refine callDE_frame [5, 0, 1] hstep rfl rfl (by simp) (by simp +decide -dsimp -implicitDefEqProofs [go_sem, renLL_aRows]) (by simp +decide -dsimp -implicitDefEqProofs [go_sem, renLL_clRows]) ?_
        simp +decide -dsimp -implicitDefEqProofs [go_sem, renLL_clRows, wi]
        refine next_of (i + 1) (by show i + 1 ≤ T.length; omega) (by show T.length - (i + 1) < T.length - i; omega) (cut_of (by simp) ?_)
        rw [hL']
        simp +decide -dsimp -implicitDefEqProofs [go_sem, hcl, hnl]
        exact fun a b => hMc _ a b
  · have e : i = T.length := by omega
    subst e
    rw [List.take_length]
    simp +decide -dsimp -implicitDefEqProofs [go_sem, hnl]
set_option maxHeartbeats 4000000 in
theorem claims_c (T : List Dvc) (rs : List Rcd) (hS : ∀ d ∈ T, d.orig ∈ oS) (hl : T.length ≤ 100) (hr : rs.length ≤ 100) (hnd : rs.Pairwise fun a b => a.idx ≠ b.idx) (hB : ∀ r ∈ rs, r.links.length ≤ 16) :
    ACalls Tryz.prog 16 [.agg [.imm (T.map dcRow)], .imm (rs.map rcRow)] [] (.imm ((mkC T rs).map clRow)) [] := by
  have hcl := fun k (T : List Dvc) => dcRows_cl k T
  have hrl := fun k (l : List Rcd) => rcRows_cl k l
  have hnl := closedLL_clRows
  have ce := eachC_c T rs hS hl hr hnd hB
  refine acalls_A c16_ok rfl ?_
  unfold c16
  refine awp_cut ⟨tmps 11 [(1, .imm (rs.map rcRow)), (2, .ptr 0 0)], [.box 28 [.imm (T.map dcRow)]]⟩ (awp_of ?_) ?_
  · simp +decide -dsimp -implicitDefEqProofs [go_sem]
    refine cut_of (by simp) ?_
    simp +decide -dsimp -implicitDefEqProofs [go_sem, hcl, hrl]
  refine awp_cut ⟨tmps 11 [(1, .imm (rs.map rcRow)), (2, .ptr 0 0), (5, .ptr 1 0)], [.box 28 [.imm (T.map dcRow)], .box 36 [.own 2 0], .reg 84 4 []]⟩ (awp_of ?_) ?_
  · simp +decide -dsimp -implicitDefEqProofs [go_sem]
    refine (Wk.nilB 1 0 84 4 rfl rfl (by simp)).trans (cut_of (by simp) ?_)
    simp +decide -dsimp -implicitDefEqProofs [go_sem, hcl, hrl]
  refine awp_of ?_
  simp +decide -dsimp -implicitDefEqProofs [go_sem]
  refine callE_frame [1, 2] ce rfl rfl (by simp) (by simp +decide -dsimp -implicitDefEqProofs [go_sem, renLL_dcRows, renLL_rcRows]) (by simp +decide -dsimp -implicitDefEqProofs [go_sem]) ?_
  simp +decide -dsimp -implicitDefEqProofs [go_sem, renLL_clRows, hnl]
theorem sameLinks_c (l : List Lk) (hn : l.length ≤ 100000) : ACalls Tryz.prog 22 [.imm (l.map lkRow), .imm (l.map lkRow)] [] (.bool true) [] := by
  have hlc := closedLL_lkRows
  refine acalls_F c22_ok rfl ?_
  unfold c22
  simp +decide -dsimp -implicitDefEqProofs [go_sem]
  refine loop_of (S := Nat) (fun i => ⟨tmps 26 [(0, .imm (l.map lkRow)), (1, .imm (l.map lkRow)), (5, .int .i64 i)], []⟩) (fun i => l.length - i) (fun i => i ≤ l.length) 0 (by simp) (cut_of (by simp) ?_) ?_
  · simp +decide -dsimp -implicitDefEqProofs [go_sem, hlc]
  intro i hi
  by_cases h : i < l.length
  · have w : IntKind.i64.wrap ((i : Int) + 1) = i + 1 := w64 (by omega) (by omega)
    simp +decide -dsimp -implicitDefEqProofs [go_sem, h, w, lkRow]
    refine next_of (i + 1) (by show i + 1 ≤ l.length; omega) (by show l.length - (i + 1) < l.length - i; omega) (cut_of (by simp) ?_)
    simp +decide -dsimp -implicitDefEqProofs [go_sem, hlc]
  · have e : i = l.length := by omega
    subst e
    simp +decide -dsimp -implicitDefEqProofs [go_sem]
theorem sameTexts_c (l : List Txt) (hn : l.length ≤ 100000) : ACalls Tryz.prog 19 [.imm (l.map sRow), .imm (l.map sRow)] [] (.bool true) [] := by
  refine acalls_F c19_ok rfl ?_
  unfold c19
  simp +decide -dsimp -implicitDefEqProofs [go_sem]
  refine loop_of (S := Nat) (fun i => ⟨tmps 26 [(0, .imm (l.map sRow)), (1, .imm (l.map sRow)), (5, .int .i64 i)], []⟩) (fun i => l.length - i) (fun i => i ≤ l.length) 0 (by simp) (cut_of (by simp) ?_) ?_
  · simp +decide -dsimp -implicitDefEqProofs [go_sem]
  intro i hi
  by_cases h : i < l.length
  · have w : IntKind.i64.wrap ((i : Int) + 1) = i + 1 := w64 (by omega) (by omega)
    simp +decide -dsimp -implicitDefEqProofs [go_sem, h, w]
    refine next_of (i + 1) (by show i + 1 ≤ l.length; omega) (by show l.length - (i + 1) < l.length - i; omega) (cut_of (by simp) ?_)
    simp +decide -dsimp -implicitDefEqProofs [go_sem]
  · have e : i = l.length := by omega
    subst e
    simp +decide -dsimp -implicitDefEqProofs [go_sem]
theorem sameClaims_c (l : List Cl) (hn : l.length ≤ 100000) : ACalls Tryz.prog 15 [.imm (l.map clRow), .imm (l.map clRow)] [] (.bool true) [] := by
  have hlc := closedLL_clRows
  refine acalls_F c15_ok rfl ?_
  unfold c15
  simp +decide -dsimp -implicitDefEqProofs [go_sem]
  refine loop_of (S := Nat) (fun i => ⟨tmps 26 [(0, .imm (l.map clRow)), (1, .imm (l.map clRow)), (5, .int .i64 i)], []⟩) (fun i => l.length - i) (fun i => i ≤ l.length) 0 (by simp) (cut_of (by simp) ?_) ?_
  · simp +decide -dsimp -implicitDefEqProofs [go_sem, hlc]
  intro i hi
  by_cases h : i < l.length
  · have w : IntKind.i64.wrap ((i : Int) + 1) = i + 1 := w64 (by omega) (by omega)
    simp +decide -dsimp -implicitDefEqProofs [go_sem, h, w, clRow]
    refine next_of (i + 1) (by show i + 1 ≤ l.length; omega) (by show l.length - (i + 1) < l.length - i; omega) (cut_of (by simp) ?_)
    simp +decide -dsimp -implicitDefEqProofs [go_sem, hlc]
  · have e : i = l.length := by omega
    subst e
    simp +decide -dsimp -implicitDefEqProofs [go_sem]
end Go.Ab
namespace Go.Ab
open Go Go.Proofs Go.Sort
set_option maxRecDepth 20000
set_option maxHeartbeats 16000000 in
theorem rClaims_c (T : List Dvc) (rs : List Rcd) (hS : ∀ d ∈ T, d.orig ∈ oS) (hl : T.length ≤ 100) (hr : rs.length ≤ 100) (hB : ∀ r ∈ rs, r.links.length ≤ 16) :
    ACalls Tryz.prog 17 [.agg [.imm (T.map dcRow)], .imm (rs.map rcRow)] [] (.imm ((mkC T rs).map clRow)) [] := by
  have hcl := fun k (T : List Dvc) => dcRows_cl k T
  have hrl := fun k (l : List Rcd) => rcRows_cl k l
  have hcc := closedLL_clRows
  have hcB : ∀ d, (clOfD rs d).length ≤ 16 := fun d => by
    unfold clOfD
    split
    · rename_i s r h1 h2; rw [List.length_map]; exact hB r (ofR_some h2).1
    · simp
  refine acalls_F c17_ok rfl ?_
  unfold c17
  simp +decide -dsimp -implicitDefEqProofs [go_sem]
  refine loop_of (S := Nat) (fun i => ⟨tmps 67 [(1, .imm (rs.map rcRow)), (2, .ptr 0 0), (5, .own 1 (mkC (T.take i) rs).length), (6, .int .i64 i)], [.box 28 [.imm (T.map dcRow)], .reg 84 4 ((mkC (T.take i) rs).map clRow)]⟩) (fun i => T.length - i) (fun i => i ≤ T.length) 0 (by simp) ((Wk.nilT 5 84 4 rfl (by simp)).trans (cut_of (by simp) ?_)) ?_
  · simp +decide -dsimp -implicitDefEqProofs [go_sem, hcl, hrl, mkC]
  intro i hi
  by_cases h : i < T.length
  · have wi : IntKind.i64.wrap ((i : Int) + 1) = i + 1 := w64 (by omega) (by omega)
    have hdT : T[i] ∈ T := List.getElem_mem h
    have cd := node_c T[i] (hS _ hdT)
    have co := of_c rs T[i].idx (by omega)
    have hda := fun k => aRows_cl k T[i].attrs
    have htk := mkC_take T rs h
    have hll := flat_len (clOfD rs) 16 (l := T.take i) fun d _ => hcB d
    change (mkC (T.take i) rs).length ≤ _ at hll
    rw [List.length_take] at hll
    have hll2 : min i T.length * 16 ≤ 100 * 16 := Nat.mul_le_mul_right _ (by omega)
    generalize mkC (T.take i) rs = L at htk hll
    generalize hL' : mkC (T.take (i + 1)) rs = L' at htk
    rw [dcRow_eq] at cd
    unfold clOfD at htk
    have hst : i + 1 ≤ T.length ∧ T.length - (i + 1) < T.length - i := ⟨by omega, by omega⟩
    simp +decide -dsimp -implicitDefEqProofs [go_sem, h, dcRow_eq]
    cases ho : ofR rs T[i].idx with
    | none =>
      have htk : L' = L := by rw [htk, ho]; cases nodeD T[i] <;> simp
      subst htk
      rw [ho] at co
      generalize htv : ofV none = tv at co
      refine callE_pure co (by simp +decide -dsimp -implicitDefEqProofs [go_sem, hrl]) (by rw [← htv]; rfl) ?_
      subst htv
      unfold ofV
      simp +decide -dsimp -implicitDefEqProofs [go_sem, zR, h, dcRow_eq]
      generalize htv : ndV (nodeD T[i]) = tv at cd
      have hcv : closed 0 tv = true := by rw [← htv]; cases nodeD T[i] <;> rfl
      have htv2 : ∃ s b, tv = .tup [.str s, .bool b] := by rw [← htv]; cases nodeD T[i] <;> exact ⟨_, _, rfl⟩
      refine callE_pure cd (by simp +decide -dsimp -implicitDefEqProofs [go_sem, hda]) hcv ?_
      obtain ⟨s, b, htv2⟩ := htv2
      rw [htv2]
      simp +decide -dsimp -implicitDefEqProofs [go_sem]
      refine loop_of (S := Nat) (fun _ => ⟨tmps 67 [(1, .imm (rs.map rcRow)), (2, .ptr 0 0), (5, .own 1 L'.length), (6, .int .i64 i), (7, .ptr 2 0), (8, .bool false), (10, .bool b), (11, .int .i64 0)], [.box 28 [.imm (T.map dcRow)], .reg 84 4 (L'.map clRow), .box 65 zR]⟩) (fun _ => 0) (fun _ => True) 0 trivial (cut_of (by simp) ?_) ?_
      · simp +decide -dsimp -implicitDefEqProofs [go_sem, hcl, hrl, hcc, zR]
      intro _ _
      unfold zR
      simp +decide -dsimp -implicitDefEqProofs [go_sem, wi]
      refine next_of (i + 1) hst.1 hst.2 (cut_of (by simp) ?_)
      rw [hL']
      simp +decide -dsimp -implicitDefEqProofs [go_sem, hcl, hrl, hcc]
    | some r =>
      rw [ho] at co htk
      have hna := fun k => aRows_cl k r.props
      have hrB := hB r (ofR_some ho).1
      generalize htv : ofV (some r) = tv at co
      refine callE_pure co (by simp +decide -dsimp -implicitDefEqProofs [go_sem, hrl]) (by rw [← htv]; simp +decide [ofV, closed, closedL, rcRow_cl]) ?_
      subst htv
      unfold ofV
      simp +decide -dsimp -implicitDefEqProofs [go_sem, rcRow_eq, h, dcRow_eq]
      cases hn : nodeD T[i] with
      | none =>
        rw [hn] at cd htk
        simp only [List.append_nil] at htk
        subst htk
        generalize htv : ndV none = tv at cd
        refine callE_pure cd (by simp +decide -dsimp -implicitDefEqProofs [go_sem, hda]) (by rw [← htv]; rfl) ?_
        subst htv
        unfold ndV
        simp +decide -dsimp -implicitDefEqProofs [go_sem]
        refine loop_of (S := Nat) (fun _ => ⟨tmps 67 [(1, .imm (rs.map rcRow)), (2, .ptr 0 0), (5, .own 1 L'.length), (6, .int .i64 i), (7, .ptr 2 0), (8, .bool true), (10, .bool false), (11, .int .i64 0)], [.box 28 [.imm (T.map dcRow)], .reg 84 4 (L'.map clRow), .box 65 (rcRow r)]⟩) (fun _ => 0) (fun _ => True) 0 trivial (cut_of (by simp) ?_) ?_
        · simp +decide -dsimp -implicitDefEqProofs [go_sem, hcl, hrl, hcc, rcRow_eq, hna]
        intro _ _
        rw [rcRow_eq]
        by_cases hz : 0 < r.links.length
        · simp +decide -dsimp -implicitDefEqProofs [go_sem, wi, hz]
          refine next_of (i + 1) hst.1 hst.2 (cut_of (by simp) ?_)
          rw [hL']
          simp +decide -dsimp -implicitDefEqProofs [go_sem, hcl, hrl, hcc]
        · have hz' : ¬ (0 : Int) < r.links.length := by omega
          simp +decide -dsimp -implicitDefEqProofs [go_sem, wi, hz]
          refine next_of (i + 1) hst.1 hst.2 (cut_of (by simp) ?_)
          rw [hL']
          simp +decide -dsimp -implicitDefEqProofs [go_sem, hcl, hrl, hcc]
      | some s =>
        rw [hn] at cd htk
        change L' = L ++ clsOf r s at htk
        generalize htv : ndV (some s) = tv at cd
        refine callE_pure cd (by simp +decide -dsimp -implicitDefEqProofs [go_sem, hda]) (by rw [← htv]; rfl) ?_
        subst htv
        unfold ndV
        simp +decide -dsimp -implicitDefEqProofs [go_sem]
        have hcl2 : (clsOf r s).length = r.links.length := by simp [clsOf]
        refine loop_of (S := Nat) (fun j => ⟨tmps 67 [(1, .imm (rs.map rcRow)), (2, .ptr 0 0), (5, .own 1 (L ++ (clsOf r s).take j).length), (6, .int .i64 i), (7, .ptr 2 0), (8, .bool true), (9, .str s), (10, .bool true), (11, .int .i64 j)], [.box 28 [.imm (T.map dcRow)], .reg 84 4 ((L ++ (clsOf r s).take j).map clRow), .box 65 (rcRow r)]⟩) (fun j => r.links.length - j) (fun j => j ≤ r.links.length) 0 (by simp) (cut_of (by simp) ?_) ?_
        · simp +decide -dsimp -implicitDefEqProofs [go_sem, hcl, hrl, hcc, rcRow_eq, hna]
        intro j hj
        by_cases hz : j < r.links.length
        · have wj : IntKind.i64.wrap ((j : Int) + 1) = j + 1 := w64 (by omega) (by omega)
          have hca : (clsOf r s).take (j + 1) = (clsOf r s).take j ++ [⟨r.links[j], r.path, s, r.prio⟩] := by
            rw [List.take_succ_eq_append_getElem (by omega)]; simp [clsOf]
          have hol3 : (L ++ (clsOf r s).take j).length ≤ 11000 := by rw [List.length_append, List.length_take]; omega
          have ha : (L ++ (clsOf r s).take j).map clRow ++ [[.str r.links[j], .str r.path, .str s, .int .i64 r.prio]] = (L ++ (clsOf r s).take (j + 1)).map clRow := by rw [hca, ← List.append_assoc, List.map_append (l₂ := [_])]; rfl
          have hl4 : (L ++ (clsOf r s).take (j + 1)).length = (L ++ (clsOf r s).take j).length + 1 := by rw [hca]; simp; omega
          generalize L ++ (clsOf r s).take j = o1 at ha hol3 hl4
          obtain ⟨o2, ho2⟩ : ∃ o2, o2 = L ++ (clsOf r s).take (j + 1) := ⟨_, rfl⟩
          rw [← ho2] at ha hl4
          simp +decide -dsimp -implicitDefEqProofs [go_sem, hz, rcRow_eq, maxLen, wj]
          refine ⟨⟨by omega, by omega⟩, ?_⟩
          rw [ha]
          refine next_of (j + 1) (by show j + 1 ≤ r.links.length; omega) (by show r.links.length - (j + 1) < r.links.length - j; omega) (cut_of (by simp) ?_)
          rw [← ho2, hl4]
          simp +decide -dsimp -implicitDefEqProofs [go_sem, hcl, hrl, hcc, rcRow_eq, hna]
        · have e : j = r.links.length := by omega
          subst e
          rw [List.take_of_length_le (by rw [hcl2]; exact Nat.le_refl _), ← htk]
          simp +decide -dsimp -implicitDefEqProofs [go_sem, rcRow_eq, wi]
          refine next_of (i + 1) hst.1 hst.2 (cut_of (by simp) ?_)
          rw [hL']
          simp +decide -dsimp -implicitDefEqProofs [go_sem, hcl, hrl, hcc]
  · have e : i = T.length := by omega
    subst e
    rw [List.take_length]
    simp +decide -dsimp -implicitDefEqProofs [go_sem, hcc]
end Go.Ab
