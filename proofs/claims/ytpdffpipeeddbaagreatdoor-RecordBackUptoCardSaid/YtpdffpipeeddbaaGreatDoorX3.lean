/- Records among the data of a row; the law RecordGets. -/
import Derived.Test.YtpdffpipeeddbaaGreatDoorX2
namespace Go.Ab
open Go Go.Proofs
@[go_sem ↓] theorem ldK_rRow (r : Rcd) (K : AV → Prop) : ldK (some 12) (rRow r) K = K (.agg (rRow r)) := by simp [ldK, rRow]
theorem rRow_take (r : Rcd) : (rRow r).take 12 = rRow r := rfl
theorem rRow_drop0 (r : Rcd) : (rRow r).drop 0 = rRow r := rfl
theorem closedLL_rRows (k : Nat) (l : List Rcd) : closedLL k (l.map rRow) = true := closedLL_map fun x _ => rRow_cl k x

theorem cvT_row (H : List AObj) (k : Nat) (r : Rcd) : cvT H k (rRow r) (rRow r) := by unfold rRow; simp +decide -dsimp -implicitDefEqProofs [go_sem]
set_option maxRecDepth 20000 in
set_option maxHeartbeats 4000000 in
theorem RecordGets_c (a b : List Int) (raw : Rcd) (key : List UInt8) (hr : Fit raw) (_hk : key.length ≤ 9223372036854775807) : ACalls Tryz.prog 8 [tapeVs a, tapeVs b, .agg (rRow raw), .str key] [] (.bool true) [] := by
  obtain ⟨_, _, ⟨rfl, x, rfl, hfx⟩, cx⟩ := made_c a
  obtain ⟨_, _, ⟨rfl, y, rfl, hfy⟩, cy⟩ := made_c b
  obtain ⟨fb, cf⟩ := few_c raw hr
  refine acalls_F c8_ok rfl ?_
  unfold c8
  unfold tapeVs at cx cy ⊢
  simp +decide -dsimp -implicitDefEqProofs [go_sem, rRow_len]
  refine callE_pure cf (by rw [rRow_take]; simp +decide -dsimp -implicitDefEqProofs [go_sem, rRow_cl]) rfl ?_
  cases fb with
  | false =>
    simp +decide -dsimp -implicitDefEqProofs [go_sem]
    refine callE_pure known_c rfl rfl ?_
    simp +decide -dsimp -implicitDefEqProofs [go_sem]
  | true =>
  by_cases hk1 : (100 : Int) < key.length
  · simp +decide -dsimp -implicitDefEqProofs [go_sem, hk1]
    refine callE_pure known_c rfl rfl ?_
    simp +decide -dsimp -implicitDefEqProofs [go_sem]
  simp +decide -dsimp -implicitDefEqProofs [go_sem, hk1]
  refine callE_pure cx (by simp +decide -dsimp -implicitDefEqProofs [go_sem]) (by simp +decide -dsimp -implicitDefEqProofs [go_sem, rRow_cl]) ?_
  simp +decide -dsimp -implicitDefEqProofs [go_sem]
  refine callE_pure cy (by simp +decide -dsimp -implicitDefEqProofs [go_sem]) (by simp +decide -dsimp -implicitDefEqProofs [go_sem, rRow_cl]) ?_
  simp +decide -dsimp -implicitDefEqProofs [go_sem, rRow_len, rRow_take]
  obtain ⟨L, hL⟩ : ∃ L, L = [x, y, raw] := ⟨_, rfl⟩
  have hLr : [rRow x, rRow y, rRow raw] = L.map rRow := by rw [hL]; rfl
  have hLl : L.length = 3 := by rw [hL]; rfl
  have hLf : ∀ r ∈ L, Fit r := by
    rw [hL]; intro r h
    simp only [List.mem_cons, List.not_mem_nil, or_false] at h
    rcases h with rfl | rfl | rfl
    · exact hfx.fit
    · exact hfy.fit
    · exact hr
  rw [hLr]
  refine loop_of (S := Nat) (fun i => ⟨tmps 89 [(3, .str key), (11, .imm (L.map rRow)), (12, .int .i64 i)], [.box 26 (rRow raw), .box 26 (rRow x), .box 26 (rRow y)]⟩) (fun i => 3 - i) (fun i => i ≤ 3) 0 (by simp) (cut_of (by simp) ?_) ?_
  · simp +decide -dsimp -implicitDefEqProofs [go_sem]
    exact ⟨closedLL_rRows _ _, cvT_row _ _ _, cvT_row _ _ _, cvT_row _ _ _⟩
  intro i hi
  by_cases h : (i : Int) < 3
  rotate_left
  · have e : i = 3 := by omega
    subst e
    simp +decide -dsimp -implicitDefEqProofs [go_sem, hLl]
    refine callE_pure known_c rfl rfl ?_
    simp +decide -dsimp -implicitDefEqProofs [go_sem]
  have hiL : i < L.length := by omega
  have w : IntKind.i64.wrap ((i : Int) + 1) = i + 1 := w64 (by omega) (by omega)
  have hf := hLf _ (List.getElem_mem hiL)
  have hai : L[i]? = some L[i] := List.getElem?_eq_getElem hiL
  generalize L[i] = ri at hai hf
  simp +decide -dsimp -implicitDefEqProofs [go_sem, hLl, h, hai, rRow_len, rRow_take]
  refine callDE_pure (Get_c ri key hf) (by simp +decide -dsimp -implicitDefEqProofs [go_sem, rRow_cl]) rfl ?_
  simp +decide -dsimp -implicitDefEqProofs [go_sem, hai, rRow_len, rRow_take]
  refine callDE_pure (rGet_c ri key hf) (by simp +decide -dsimp -implicitDefEqProofs [go_sem, rRow_cl]) rfl ?_
  simp +decide -dsimp -implicitDefEqProofs [go_sem, hai, rRow_len, rRow_take]
  refine callDE_pure (Get_c ri _ hf) (by simp +decide -dsimp -implicitDefEqProofs [go_sem, rRow_cl]) rfl ?_
  simp +decide -dsimp -implicitDefEqProofs [go_sem, hai, rRow_len, rRow_take]
  refine callDE_pure (rGet_c ri _ hf) (by simp +decide -dsimp -implicitDefEqProofs [go_sem, rRow_cl]) rfl ?_
  simp +decide -dsimp -implicitDefEqProofs [go_sem]
  refine loop_of (S := Nat) (fun k => ⟨tmps 89 [(3, .str key), (11, .imm (L.map rRow)), (12, .int .i64 i), (13, .int .i64 k)], [.box 26 (rRow raw), .box 26 (rRow x), .box 26 (rRow y)]⟩) (fun k => 3 - k) (fun k => k ≤ 3) 0 (by simp) (cut_of (by simp) ?_) ?_
  · simp +decide -dsimp -implicitDefEqProofs [go_sem]
    exact ⟨closedLL_rRows _ _, cvT_row _ _ _, cvT_row _ _ _, cvT_row _ _ _⟩
  intro k hk
  by_cases h2 : (k : Int) < 3
  rotate_left
  · have e : k = 3 := by omega
    subst e
    simp +decide -dsimp -implicitDefEqProofs [go_sem, hLl, w]
    refine next_of (i + 1) (by show i + 1 ≤ 3; omega) (by show 3 - (i + 1) < 3 - i; omega) (cut_of (by simp) ?_)
    simp +decide -dsimp -implicitDefEqProofs [go_sem]
    exact ⟨closedLL_rRows _ _, cvT_row _ _ _, cvT_row _ _ _, cvT_row _ _ _⟩
  have hkL : k < L.length := by omega
  have w2 : IntKind.i64.wrap ((k : Int) + 1) = k + 1 := w64 (by omega) (by omega)
  have hg := hLf _ (List.getElem_mem hkL)
  have hak : L[k]? = some L[k] := List.getElem?_eq_getElem hkL
  generalize L[k] = rk at hak hg
  have hs := rSame_c ri rk hf hg
  simp +decide -dsimp -implicitDefEqProofs [go_sem, hLl, hai, h2, hak, rRow_len, rRow_take]
  refine callDE_pure (pSame_c ri rk hf hg) (by simp +decide -dsimp -implicitDefEqProofs [go_sem, rRow_cl]) rfl ?_
  simp +decide -dsimp -implicitDefEqProofs [go_sem, hai, hak, rRow_len, rRow_take]
  refine callDE_pure hs (by simp +decide -dsimp -implicitDefEqProofs [go_sem, rRow_cl]) rfl ?_
  simp +decide -dsimp -implicitDefEqProofs [go_sem, w2]
  refine next_of (k + 1) (by show k + 1 ≤ 3; omega) (by show 3 - (k + 1) < 3 - k; omega) (cut_of (by simp) ?_)
  simp +decide -dsimp -implicitDefEqProofs [go_sem]
  exact ⟨closedLL_rRows _ _, cvT_row _ _ _, cvT_row _ _ _, cvT_row _ _ _⟩
end Go.Ab
namespace Go.Ab
open Go Go.Proofs
theorem decV_form (s : List UInt8) : ∃ x e, Fit x ∧ decV s = .tup [.agg (rRow x), .int .i64 e] := by
  by_cases hd : decS s
  · obtain ⟨x, hx, rfl⟩ := hd
    exact ⟨x, 0, (small_of hx).few.fit, decV_of hx⟩
  · exact ⟨nil0, 251, ⟨by decide, by decide, by decide, by decide, by decide⟩, decV_no hd⟩
def putS (g k m n : Nat) (c : UInt8) (s : List UInt8) : List UInt8 :=
  if s = [] then s else if g = 0 then s.take k else if g = 1 then s.take k ++ c :: s.drop k else if g = 2 then s.take k ++ trimP (s.drop k) ((s.take m).drop k) else if g = 3 then s.take k ++ s.drop n else s
theorem trimP_len (s p : List UInt8) : (trimP s p).length ≤ s.length := by unfold trimP; split <;> simp
def rawS (s : List UInt8) : List UInt8 := if 3000 < s.length then [] else s

set_option maxRecDepth 20000 in
set_option maxHeartbeats 2000000 in
theorem RecordDecodes_c (l : List Int) (at_ put : Int) (raw : List UInt8) (hraw : raw.length ≤ 9223372036854775807) : ACalls Tryz.prog 9 [tapeVs l, .int .i64 at_, .int .i64 put, .str raw] [] (.bool true) [] := by
  obtain ⟨_, _, ⟨rfl, r, rfl, hf⟩, cm⟩ := made_c l
  have ce := rEncode_c r hf
  have hsm : (encS r).length ≤ 40000 := by
    unfold encS; split
    · rename_i h; exact enc_small h
    · simp
  generalize encS r = s at ce hsm
  generalize chkB r = er at ce
  have w1 : IntKind.i64.wrap ((s.length : Int) + 1) = s.length + 1 := w64 (by omega) (by omega)
  have b1 := fold_bd at_ (s.length + 1) (by omega)
  have c1 := Fold_c at_ (s.length + 1) (by omega)
  obtain ⟨k, hk⟩ : ∃ k : Nat, fold at_ (s.length + 1) = k := ⟨_, (Int.toNat_of_nonneg b1.1).symm⟩
  rw [hk] at b1 c1
  have b2 := fold_bd put 256 (by omega)
  have c2 := Fold_c put 256 (by omega)
  obtain ⟨c, hc⟩ : ∃ c : Nat, fold put 256 = c := ⟨_, (Int.toNat_of_nonneg b2.1).symm⟩
  rw [hc] at b2 c2
  have b3 := fold_bd put 5 (by omega)
  have c3 := Fold_c put 5 (by omega)
  obtain ⟨g, hg⟩ : ∃ g : Nat, fold put 5 = g := ⟨_, (Int.toNat_of_nonneg b3.1).symm⟩
  rw [hg] at b3 c3
  have w2 : IntKind.u8.wrap (c : Int) = c := by rw [IntKind.wrap_u8]; omega
  have hu := unb_one (n := c) (by omega)
  obtain ⟨ch, hch⟩ : ∃ ch, ch = UInt8.ofNat c := ⟨_, rfl⟩
  rw [← hch] at hu
  have hks : k ≤ s.length := by omega
  have kmin : min k s.length = k := by omega
  have w3 : IntKind.i64.wrap ((k : Int) + 1) = k + 1 := w64 (by omega) (by omega)
  have w4 : IntKind.i64.wrap ((k : Int) + 3) = k + 3 := w64 (by omega) (by omega)
  have w5 : (if (s.length : Int) < (k : Int) + 1 then (s.length : Int) else (k : Int) + 1) = ((min (k + 1) s.length : Nat) : Int) := by split <;> omega
  have w6 : (if (s.length : Int) < (k : Int) + 3 then (s.length : Int) else (k : Int) + 3) = ((min (k + 3) s.length : Nat) : Int) := by split <;> omega
  obtain ⟨m, hm⟩ : ∃ m : Nat, m = min (k + 1) s.length := ⟨_, rfl⟩
  obtain ⟨n, hn⟩ : ∃ n : Nat, n = min (k + 3) s.length := ⟨_, rfl⟩
  rw [← hm] at w5
  rw [← hn] at w6
  have hms : m ≤ s.length := by omega
  have hns : n ≤ s.length := by omega
  have hkm : k ≤ m := by omega
  have hkn : k ≤ n := by omega
  obtain ⟨s', hs'⟩ : ∃ s', s' = putS g k m n ch s := ⟨_, rfl⟩
  obtain ⟨raw', hraw'⟩ : ∃ s', s' = rawS raw := ⟨_, rfl⟩
  refine acalls_A c9_ok rfl ?_
  unfold c9 tapeVs
  unfold tapeVs at cm
  refine awp_cut ⟨tmps 134 [(0, .imm (l.map fun v => [.int .i64 v])), (1, .int .i64 at_), (2, .int .i64 put), (3, .str raw)], []⟩ (awp_of ?_) (awp_cut ⟨tmps 134 [(1, .int .i64 at_), (2, .int .i64 put), (3, .str raw), (9, .str s)], []⟩ (awp_of ?_)
    (awp_cut ⟨tmps 134 [(3, .str raw), (9, .str s')], []⟩ (awp_of ?_) (awp_cut ⟨tmps 134 [(3, .str raw'), (9, .str s')], []⟩ (awp_of ?_) (awp_of ?_))))
  · simp +decide -dsimp -implicitDefEqProofs [go_sem]
    refine cutE_of (by simp) ?_
    simp +decide -dsimp -implicitDefEqProofs [go_sem]
  · simp +decide -dsimp -implicitDefEqProofs [go_sem]
    refine callE_pure cm (by simp +decide -dsimp -implicitDefEqProofs [go_sem]) (by simp +decide -dsimp -implicitDefEqProofs [go_sem, rRow_cl]) ?_
    simp +decide -dsimp -implicitDefEqProofs [go_sem]
    refine callE_pure ce (by simp +decide -dsimp -implicitDefEqProofs [go_sem, rRow_cl]) rfl ?_
    simp +decide -dsimp -implicitDefEqProofs [go_sem]
    refine cutE_of (by simp) ?_
    simp +decide -dsimp -implicitDefEqProofs [go_sem]
  · by_cases he : s = []
    · have e' : s' = [] := by rw [hs', he]; simp [putS]
      rw [e', he]
      simp +decide -dsimp -implicitDefEqProofs [go_sem]
      refine cutE_of (by simp) ?_
      simp +decide -dsimp -implicitDefEqProofs [go_sem]
    have hp : 0 < s.length := List.length_pos_iff.2 he
    simp +decide -dsimp -implicitDefEqProofs [go_sem, hp, w1]
    refine callE_pure c1 rfl rfl ?_
    simp +decide -dsimp -implicitDefEqProofs [go_sem]
    refine callE_pure c2 rfl rfl ?_
    simp +decide -dsimp -implicitDefEqProofs [go_sem, w2, hu]
    refine callE_pure c3 rfl rfl ?_
    have hg5 : g = 0 ∨ g = 1 ∨ g = 2 ∨ g = 3 ∨ g = 4 := by omega
    rcases hg5 with rfl | rfl | rfl | rfl | rfl
    · have e' : s' = s.take k := by rw [hs']; simp [putS, he]
      rw [e']
      simp +decide -dsimp -implicitDefEqProofs [go_sem, hks]
      refine cutE_of (by simp) ?_
      simp +decide -dsimp -implicitDefEqProofs [go_sem]
    · have e' : s' = s.take k ++ ch :: s.drop k := by rw [hs']; simp [putS, he]
      rw [e']
      simp +decide -dsimp -implicitDefEqProofs [go_sem, hks]
      refine ⟨by omega, by omega, ?_⟩
      refine cutE_of (by simp) ?_
      simp +decide -dsimp -implicitDefEqProofs [go_sem]
    · have e' : s' = s.take k ++ trimP (s.drop k) ((s.take m).drop k) := by rw [hs']; simp [putS, he]
      rw [e']
      simp +decide -dsimp -implicitDefEqProofs [go_sem, hks, w3, w5, hms, hkm]
      refine callDE_pure (TrimPrefix_c _ _ (by simp; omega)) rfl rfl ?_
      have ht := trimP_len (s.drop k) ((s.take m).drop k)
      rw [List.length_drop] at ht
      simp +decide -dsimp -implicitDefEqProofs [go_sem, hks]
      refine ⟨by omega, ?_⟩
      refine cutE_of (by simp) ?_
      simp +decide -dsimp -implicitDefEqProofs [go_sem]
    · have e' : s' = s.take k ++ s.drop n := by rw [hs']; simp [putS, he]
      rw [e']
      simp +decide -dsimp -implicitDefEqProofs [go_sem, hks, w4, w6, hns]
      refine ⟨by omega, ?_⟩
      refine cutE_of (by simp) ?_
      simp +decide -dsimp -implicitDefEqProofs [go_sem]
    · have e' : s' = s := by rw [hs']; simp [putS, he]
      rw [e']
      simp +decide -dsimp -implicitDefEqProofs [go_sem]
      refine cutE_of (by simp) ?_
      simp +decide -dsimp -implicitDefEqProofs [go_sem]
  · by_cases hr : 3000 < raw.length
    · have e' : raw' = [] := by rw [hraw']; simp [rawS, hr]
      have hr' : (3000 : Int) < raw.length := by omega
      rw [e']
      simp +decide -dsimp -implicitDefEqProofs [go_sem, hr']
      refine cutE_of (by simp) ?_
      simp +decide -dsimp -implicitDefEqProofs [go_sem]
    · have e' : raw' = raw := by rw [hraw']; simp [rawS, hr]
      have hr' : ¬ (3000 : Int) < raw.length := by omega
      rw [e']
      simp +decide -dsimp -implicitDefEqProofs [go_sem, hr']
      refine cutE_of (by simp) ?_
      simp +decide -dsimp -implicitDefEqProofs [go_sem]
  · have hl1 : s'.length < 50000000 := by
      rw [hs']; unfold putS
      have ht := trimP_len (s.drop k) ((s.take m).drop k)
      rw [List.length_drop] at ht
      repeat' split
      all_goals first | omega | (simp <;> omega)
    have hl2 : raw'.length ≤ 3000 := by
      rw [hraw']; unfold rawS
      split
      · simp
      · omega
    simp +decide -dsimp -implicitDefEqProofs [go_sem]
    refine ⟨by omega, by omega, by omega, by omega, by omega, by omega, ?_⟩
    obtain ⟨L, hL⟩ : ∃ L, L = [s', raw', 80 :: 58 :: 47 :: 97 :: 10 :: 73 :: 58 :: (raw' ++ [10, 46, 10]), 80 :: 58 :: 47 :: 97 :: 10 :: 73 :: 58 :: 49 :: 10 :: 89 :: 58 :: (raw' ++ [10, 46, 10]), 80 :: 58 :: 47 :: 97 :: 10 :: 73 :: 58 :: 49 :: 10 :: 88 :: 58 :: (raw' ++ [10, 46, 10])] := ⟨_, rfl⟩
    have hLr : [[AV.str s'], [.str raw'], [.str (80 :: 58 :: 47 :: 97 :: 10 :: 73 :: 58 :: (raw' ++ [10, 46, 10]))], [.str (80 :: 58 :: 47 :: 97 :: 10 :: 73 :: 58 :: 49 :: 10 :: 89 :: 58 :: (raw' ++ [10, 46, 10]))], [.str (80 :: 58 :: 47 :: 97 :: 10 :: 73 :: 58 :: 49 :: 10 :: 88 :: 58 :: (raw' ++ [10, 46, 10]))]] = L.map sRow := by rw [hL]; rfl
    have hLl : L.length = 5 := by rw [hL]; rfl
    have hLb : ∀ x ∈ L, x.length < 50000000 := by
      rw [hL]; intro x hx
      simp only [List.mem_cons, List.not_mem_nil, or_false] at hx
      rcases hx with rfl | rfl | rfl | rfl | rfl
      · exact hl1
      · omega
      all_goals simp; omega
    rw [hLr]
    clear hL hLr hs' hraw'
    refine loop_of (S := Nat) (fun i => ⟨tmps 134 [(13, .imm (L.map sRow)), (14, .int .i64 i)], []⟩) (fun i => 5 - i) (fun i => i ≤ 5) 0 (by simp) (cut_of (by simp) ?_) ?_
    · simp +decide -dsimp -implicitDefEqProofs [go_sem]
    intro i hi
    by_cases h : (i : Int) < 5
    rotate_left
    · have e : i = 5 := by omega
      subst e
      simp +decide -dsimp -implicitDefEqProofs [go_sem, hLl]
      refine callE_pure known_c rfl rfl ?_
      simp +decide -dsimp -implicitDefEqProofs [go_sem]
    have hiL : i < L.length := by omega
    have w : IntKind.i64.wrap ((i : Int) + 1) = i + 1 := w64 (by omega) (by omega)
    have hf := hLb _ (List.getElem_mem hiL)
    have hai : L[i]? = some L[i] := List.getElem?_eq_getElem hiL
    generalize L[i] = x at hai hf
    have cd := Decode_c x hf
    have cr := rDecode_c x hf
    obtain ⟨y, e, hy, hv⟩ := decV_form x
    rw [hv] at cd cr
    have cs := rSame_c y y hy hy
    simp +decide -dsimp -implicitDefEqProofs [go_sem, hLl, h, hai]
    refine callE_pure cd rfl (by simp +decide -dsimp -implicitDefEqProofs [go_sem, rRow_cl]) ?_
    simp +decide -dsimp -implicitDefEqProofs [go_sem, hai, rRow_len]
    refine callE_pure cr rfl (by simp +decide -dsimp -implicitDefEqProofs [go_sem, rRow_cl]) ?_
    simp +decide -dsimp -implicitDefEqProofs [go_sem, rRow_len, rRow_take]
    refine callE_pure cs (by simp +decide -dsimp -implicitDefEqProofs [go_sem, rRow_cl]) rfl ?_
    simp +decide -dsimp -implicitDefEqProofs [go_sem, w]
    refine next_of (i + 1) (by show i + 1 ≤ 5; omega) (by show 5 - (i + 1) < 5 - i; omega) (cut_of (by simp) ?_)
    simp +decide -dsimp -implicitDefEqProofs [go_sem]
end Go.Ab
