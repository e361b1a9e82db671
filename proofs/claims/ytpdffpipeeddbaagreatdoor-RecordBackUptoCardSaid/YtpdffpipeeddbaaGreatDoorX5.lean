/- The law RecordNames. -/
import Derived.Test.YtpdffpipeeddbaaGreatDoorX4
namespace Go.Ab
open Go Go.Proofs
set_option maxRecDepth 20000 in
set_option maxHeartbeats 2000000 in
theorem RecordNames_c (p e : List UInt8) (hp : p.length ≤ 1000000000000000) (he : e.length ≤ 1000000000000000) : ACalls Tryz.prog 11 [.str p, .str e] [] (.bool true) [] := by
  have w : IntKind.i64.wrap ((p.length : Int) + e.length) = p.length + e.length := w64 (by omega) (by omega)
  by_cases h : (4000 : Int) < (p.length : Int) + e.length
  · refine acalls_F c11_ok rfl ?_
    unfold c11
    simp +decide -dsimp -implicitDefEqProofs [go_sem, w, h]
    refine callE_pure known_c rfl rfl ?_
    simp +decide -dsimp -implicitDefEqProofs [go_sem]
  have hent : ∀ {u : List UInt8}, u.length ≤ 12000 → ACalls Tryz.prog 31 [.str u] [] (entV u) [] := fun hu => Entry_c _ (by omega)
  have hlp : (entL p).length ≤ 12000 := by have := entL_len p; omega
  have hlu : (unesc byO e).length ≤ 12000 := by have := unesc_len byO e; omega
  have c1 := hent (u := p) (by omega)
  have c2 := Path_c (entL p) (by omega)
  have c3 := Path_c e (by omega)
  have c4 := hent (u := unesc byO e) hlu
  have u1 := unesc_ent byO byO_ok p
  have hno : ((47 : UInt8) ∈ entL p) = False := eq_false (ent_no p)
  have c5 := Contains1_c (entL p) 47
  simp only [hno, decide_false] at c5
  refine acalls_A c11_ok rfl ?_
  unfold c11
  refine awp_cut ⟨tmps 63 [(0, .str p), (1, .str e)], []⟩ (awp_of ?_) (awp_cut ⟨tmps 63 [(0, .str p), (1, .str e)], []⟩ (awp_of ?_) (awp_cut ⟨tmps 63 [(1, .str e)], []⟩ (awp_of ?_) (awp_of ?_)))
  · simp +decide -dsimp -implicitDefEqProofs [go_sem]
    refine cutE_of (by simp) ?_
    simp +decide -dsimp -implicitDefEqProofs [go_sem]
  · simp +decide -dsimp -implicitDefEqProofs [go_sem, w, h]
    refine cutE_of (by simp) ?_
    simp +decide -dsimp -implicitDefEqProofs [go_sem]
  · unfold entV at c1
    by_cases hb : placeB p = true
    · simp only [hb, if_true] at c1
      unfold pathE at c2
      simp only [u1, hb, and_self, if_true] at c2
      simp +decide -dsimp -implicitDefEqProofs [go_sem]
      refine callE_pure c1 rfl rfl ?_
      simp +decide -dsimp -implicitDefEqProofs [go_sem]
      refine callE_pure c2 rfl rfl ?_
      simp +decide -dsimp -implicitDefEqProofs [go_sem]
      refine callE_pure c5 rfl rfl ?_
      simp +decide -dsimp -implicitDefEqProofs [go_sem]
      refine cutE_of (by simp) ?_
      simp +decide -dsimp -implicitDefEqProofs [go_sem]
    · simp only [hb] at c1
      simp +decide -dsimp -implicitDefEqProofs [go_sem]
      refine callE_pure c1 rfl rfl ?_
      simp +decide -dsimp -implicitDefEqProofs [go_sem]
      refine cutE_of (by simp) ?_
      simp +decide -dsimp -implicitDefEqProofs [go_sem]
  · unfold pathE at c3
    by_cases hb : placeB (unesc byO e) = true ∧ entL (unesc byO e) = e
    · simp only [hb, and_self, if_true] at c3
      unfold entV at c4
      simp only [hb.1, hb.2, if_true] at c4
      simp +decide -dsimp -implicitDefEqProofs [go_sem]
      refine callE_pure c3 rfl rfl ?_
      simp +decide -dsimp -implicitDefEqProofs [go_sem]
      refine callE_pure c4 rfl rfl ?_
      simp +decide -dsimp -implicitDefEqProofs [go_sem]
      refine callE_pure known_c rfl rfl ?_
      simp +decide -dsimp -implicitDefEqProofs [go_sem]
    · simp only [hb, if_false] at c3
      simp +decide -dsimp -implicitDefEqProofs [go_sem]
      refine callE_pure c3 rfl rfl ?_
      simp +decide -dsimp -implicitDefEqProofs [go_sem]
      refine callE_pure known_c rfl rfl ?_
      simp +decide -dsimp -implicitDefEqProofs [go_sem]
end Go.Ab
namespace Go.Ab
open Go Go.Proofs
set_option maxRecDepth 20000 in
set_option maxHeartbeats 4000000 in
theorem RecordChecks_c (l : List Int) (raw : Rcd) (hr : Few raw) : ACalls Tryz.prog 6 [tapeVs l, .agg (rRow raw)] [] (.bool true) [] := by
  obtain ⟨_, _, ⟨rfl, x, rfl, hfx⟩, cx⟩ := made_c l
  obtain ⟨fb, cf⟩ := few_c raw hr.fit
  refine acalls_F c6_ok rfl ?_
  unfold c6
  unfold tapeVs at cx ⊢
  simp +decide -dsimp -implicitDefEqProofs [go_sem, rRow_len]
  refine callE_pure cf (by rw [rRow_take]; simp +decide -dsimp -implicitDefEqProofs [go_sem, rRow_cl]) rfl ?_
  cases fb with
  | false =>
    simp +decide -dsimp -implicitDefEqProofs [go_sem]
    refine callE_pure known_c rfl rfl ?_
    simp +decide -dsimp -implicitDefEqProofs [go_sem]
  | true =>
  simp +decide -dsimp -implicitDefEqProofs [go_sem]
  refine callDE_pure cx (by simp +decide -dsimp -implicitDefEqProofs [go_sem]) (by simp +decide -dsimp -implicitDefEqProofs [go_sem, rRow_cl]) ?_
  simp +decide -dsimp -implicitDefEqProofs [go_sem, rRow_len, rRow_take]
  obtain ⟨L, hL⟩ : ∃ L, L = [x, raw] := ⟨_, rfl⟩
  have hLr : [rRow x, rRow raw] = L.map rRow := by rw [hL]; rfl
  have hLl : L.length = 2 := by rw [hL]; rfl
  have hLf : ∀ r ∈ L, Few r := by
    rw [hL]; intro r h
    simp only [List.mem_cons, List.not_mem_nil, or_false] at h
    rcases h with rfl | rfl
    · exact hfx
    · exact hr
  rw [hLr]
  refine loop_of (S := Nat) (fun i => ⟨tmps 63 [(5, .imm (L.map rRow)), (6, .int .i64 i)], [.box 26 (rRow raw)]⟩) (fun i => 2 - i) (fun i => i ≤ 2) 0 (by simp) (cut_of (by simp) ?_) ?_
  · simp +decide -dsimp -implicitDefEqProofs [go_sem]
    exact ⟨closedLL_rRows _ _, cvT_row _ _ _⟩
  intro i hi
  by_cases h : (i : Int) < 2
  rotate_left
  · have e : i = 2 := by omega
    subst e
    simp +decide -dsimp -implicitDefEqProofs [go_sem, hLl]
    refine callE_pure known_c rfl rfl ?_
    simp +decide -dsimp -implicitDefEqProofs [go_sem]
  have hiL : i < L.length := by omega
  have w : IntKind.i64.wrap ((i : Int) + 1) = i + 1 := w64 (by omega) (by omega)
  have hf := hLf _ (List.getElem_mem hiL)
  have hai : L[i]? = some L[i] := List.getElem?_eq_getElem hiL
  generalize L[i] = ri at hai hf
  simp +decide -dsimp -implicitDefEqProofs [go_sem, hLl, h, hai, rRow_len, rRow_take]
  refine callE_pure (Encode_c ri hf) (by simp +decide -dsimp -implicitDefEqProofs [go_sem, rRow_cl]) rfl ?_
  simp +decide -dsimp -implicitDefEqProofs [go_sem, hai, rRow_len, rRow_take]
  refine callE_pure (rEncode_c ri hf) (by simp +decide -dsimp -implicitDefEqProofs [go_sem, rRow_cl]) rfl ?_
  simp +decide -dsimp -implicitDefEqProofs [go_sem, hai, rRow_len, rRow_take]
  refine callDE_pure (Check_c ri hf) (by simp +decide -dsimp -implicitDefEqProofs [go_sem, rRow_cl]) rfl ?_
  simp +decide -dsimp -implicitDefEqProofs [go_sem, hai, rRow_len, rRow_take]
  refine callDE_pure (rCheck_c ri hf) (by simp +decide -dsimp -implicitDefEqProofs [go_sem, rRow_cl]) rfl ?_
  simp +decide -dsimp -implicitDefEqProofs [go_sem, w]
  refine next_of (i + 1) (by show i + 1 ≤ 2; omega) (by show 2 - (i + 1) < 2 - i; omega) (cut_of (by simp) ?_)
  simp +decide -dsimp -implicitDefEqProofs [go_sem]
  exact ⟨closedLL_rRows _ _, cvT_row _ _ _⟩
end Go.Ab
namespace Go.Ab
open Go Go.Proofs
set_option maxRecDepth 20000 in
set_option maxHeartbeats 4000000 in
theorem RecordBack_c (l : List Int) (raw : Rcd) (hr : Few raw) : ACalls Tryz.prog 3 [tapeVs l, .agg (rRow raw)] [] (.bool true) [] := by
  obtain ⟨_, _, ⟨rfl, x, rfl, hfx⟩, cx⟩ := made_c l
  obtain ⟨fb, cf⟩ := few_c raw hr.fit
  refine acalls_F c3_ok rfl ?_
  unfold c3
  unfold tapeVs at cx ⊢
  simp +decide -dsimp -implicitDefEqProofs [go_sem, rRow_len]
  refine callE_pure cf (by rw [rRow_take]; simp +decide -dsimp -implicitDefEqProofs [go_sem, rRow_cl]) rfl ?_
  cases fb with
  | false =>
    simp +decide -dsimp -implicitDefEqProofs [go_sem]
    refine callE_pure known_c rfl rfl ?_
    simp +decide -dsimp -implicitDefEqProofs [go_sem]
  | true =>
  simp +decide -dsimp -implicitDefEqProofs [go_sem]
  refine callDE_pure cx (by simp +decide -dsimp -implicitDefEqProofs [go_sem]) (by simp +decide -dsimp -implicitDefEqProofs [go_sem, rRow_cl]) ?_
  simp +decide -dsimp -implicitDefEqProofs [go_sem, rRow_len, rRow_take]
  obtain ⟨L, hL⟩ : ∃ L, L = [x, raw] := ⟨_, rfl⟩
  have hLr : [rRow x, rRow raw] = L.map rRow := by rw [hL]; rfl
  have hLl : L.length = 2 := by rw [hL]; rfl
  have hLf : ∀ r ∈ L, Few r := by
    rw [hL]; intro r h
    simp only [List.mem_cons, List.not_mem_nil, or_false] at h
    rcases h with rfl | rfl
    · exact hfx
    · exact hr
  rw [hLr]
  refine loop_of (S := Nat) (fun i => ⟨tmps 59 [(5, .imm (L.map rRow)), (6, .int .i64 i)], [.box 26 (rRow raw)]⟩) (fun i => 2 - i) (fun i => i ≤ 2) 0 (by simp) (cut_of (by simp) ?_) ?_
  · simp +decide -dsimp -implicitDefEqProofs [go_sem]
    exact ⟨closedLL_rRows _ _, cvT_row _ _ _⟩
  intro i hi
  by_cases h : (i : Int) < 2
  rotate_left
  · have e : i = 2 := by omega
    subst e
    simp +decide -dsimp -implicitDefEqProofs [go_sem, hLl]
    refine callE_pure known_c rfl rfl ?_
    simp +decide -dsimp -implicitDefEqProofs [go_sem]
  have hiL : i < L.length := by omega
  have w : IntKind.i64.wrap ((i : Int) + 1) = i + 1 := w64 (by omega) (by omega)
  have hf := hLf _ (List.getElem_mem hiL)
  have hai : L[i]? = some L[i] := List.getElem?_eq_getElem hiL
  generalize L[i] = ri at hai hf
  simp +decide -dsimp -implicitDefEqProofs [go_sem, hLl, h, hai, rRow_len, rRow_take]
  refine callE_pure (Encode_c ri hf) (by simp +decide -dsimp -implicitDefEqProofs [go_sem, rRow_cl]) rfl ?_
  simp +decide -dsimp -implicitDefEqProofs [go_sem, hai, rRow_len, rRow_take]
  refine callE_pure (Check_c ri hf) (by simp +decide -dsimp -implicitDefEqProofs [go_sem, rRow_cl]) rfl ?_
  by_cases hs : soundB ri = true
  rotate_left
  · have e1 : chkB ri = 250 := by simp [chkB, hs]
    rw [e1]
    simp +decide -dsimp -implicitDefEqProofs [go_sem, w]
    refine next_of (i + 1) (by show i + 1 ≤ 2; omega) (by show 2 - (i + 1) < 2 - i; omega) (cut_of (by simp) ?_)
    simp +decide -dsimp -implicitDefEqProofs [go_sem]
    exact ⟨closedLL_rRows _ _, cvT_row _ _ _⟩
  obtain ⟨e1, e2⟩ := chk_ok hs
  have cd := Decode_c (encT ri) (by have := enc_small hs; omega)
  rw [decV_of hs] at cd
  rw [e1, e2]
  simp +decide -dsimp -implicitDefEqProofs [go_sem]
  refine callE_pure cd rfl (by simp +decide -dsimp -implicitDefEqProofs [go_sem, rRow_cl]) ?_
  simp +decide -dsimp -implicitDefEqProofs [go_sem, hai, rRow_len, rRow_take]
  have cs := rSame_c ri ri hf.fit hf.fit
  rw [decide_eq_true rfl] at cs
  refine callDE_pure cs (by simp +decide -dsimp -implicitDefEqProofs [go_sem, rRow_cl]) rfl ?_
  simp +decide -dsimp -implicitDefEqProofs [go_sem, w]
  refine next_of (i + 1) (by show i + 1 ≤ 2; omega) (by show 2 - (i + 1) < 2 - i; omega) (cut_of (by simp) ?_)
  simp +decide -dsimp -implicitDefEqProofs [go_sem]
  exact ⟨closedLL_rRows _ _, cvT_row _ _ _⟩
end Go.Ab
