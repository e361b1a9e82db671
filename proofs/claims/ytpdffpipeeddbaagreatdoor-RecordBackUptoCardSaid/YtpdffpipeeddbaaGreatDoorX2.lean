/- Made records, the known example, whether a record is small. -/
import Derived.Test.YtpdffpipeeddbaaGreatDoorX1
import Derived.Test.YtpdffpipeeddbaaGreatDoorW8
namespace Go.Ab
open Go Go.Proofs
def mdR (av : AV) (H : List AObj) : Prop := H = [] ∧ ∃ r, av = .agg (rRow r) ∧ Few r
def tapeVs (l : List Int) : AV := .imm (l.map fun v => [.int .i64 v])
theorem tape0 (l : List Int) : AObj.box 44 [.imm (l.map fun v => [.int .i64 v]), .int .i64 0] = tapeO l 0 := rfl

set_option maxRecDepth 20000 in
set_option maxHeartbeats 2000000 in
theorem made_c (l : List Int) : ∃ av, (∃ H', mdR av H' ∧ ACalls Tryz.prog 14 [tapeVs l] [] av H') := by
  refine (?_ : ∃ av H', mdR av H' ∧ ACalls Tryz.prog 14 [tapeVs l] [] av H')
  obtain ⟨_, _, ⟨p, k1, rfl, rfl, hp, hk1⟩, c1⟩ := mPath_c l 0 (by decide)
  have c2 := Next_c l k1 9 (by omega) (by omega)
  have b2 := fold_bd (tapeV l k1) 9 (by omega)
  generalize fold (tapeV l k1) 9 = f at c2 b2
  have w1 : IntKind.i64.wrap (1 + f) = 1 + f := w64 (by omega) (by omega)
  obtain ⟨_, _, ⟨r, k2, rfl, rfl, hS, _, _, hk2⟩, c3⟩ := mRecord_c l (k1 + 1) p (1 + f) (by omega) hp (by omega)
  have c4 := Next_c l k2 2 (by omega) (by omega)
  obtain ⟨_, _, ⟨r', k3, rfl, rfl, hf'⟩, c5⟩ := spoilt_c l (k2 + 1) r (by omega) (small_of hS)
  have hf := (small_of hS).few
  refine acalls_EA mdR 0 c14_ok ?_
  unfold c14 tapeVs
  refine awp_cut ⟨tmps 22 [(0, tapeVs l), (2, .ptr 0 0)], [.box 26 [.str [], .int .i64 0, .nils, .nils, .nils, .nils, .nils, .str [], .int .i64 0, .str [], .str [], .int .i64 0]]⟩ (awp_of ?_) (awp_cut ⟨tmps 22 [(2, .ptr 0 0), (3, .ptr 1 0)], [.box 26 [.str [], .int .i64 0, .nils, .nils, .nils, .nils, .nils, .str [], .int .i64 0, .str [], .str [], .int .i64 0], tapeO l 0]⟩ (awp_of ?_) (awp_cut ⟨tmps 22 [(2, .ptr 0 0), (3, .ptr 1 0), (4, .ptr 2 0)], [.box 26 [.str [], .int .i64 0, .nils, .nils, .nils, .nils, .nils, .str [], .int .i64 0, .str [], .str [], .int .i64 0], tapeO l k2, .box 26 (rRow r)]⟩ (awp_of ?_) (awp_of ?_)))
  · simp +decide -dsimp -implicitDefEqProofs [go_sem]
    refine cutE_of (by simp) ?_
    simp +decide -dsimp -implicitDefEqProofs [go_sem, tapeVs]
  · unfold tapeVs
    simp +decide -dsimp -implicitDefEqProofs [go_sem]
    refine cutE_of (by simp) ?_
    simp +decide -dsimp -implicitDefEqProofs [go_sem, tapeO]
  · simp +decide -dsimp -implicitDefEqProofs [go_sem]
    refine callE_frame [1] c1 rfl rfl (by simp) rfl (by simp +decide -dsimp -implicitDefEqProofs [go_sem, tapeO_ren]) ?_
    simp +decide -dsimp -implicitDefEqProofs [go_sem, tapeO_ren]
    refine callE_frame [1] c2 rfl rfl (by simp) rfl (by simp +decide -dsimp -implicitDefEqProofs [go_sem, tapeO_ren]) ?_
    simp +decide -dsimp -implicitDefEqProofs [go_sem, tapeO_ren, w1]
    refine callE_frame [1] c3 rfl rfl (by simp) rfl (by simp +decide -dsimp -implicitDefEqProofs [go_sem, tapeO_ren]) ?_
    unfold rRow
    simp +decide -dsimp -implicitDefEqProofs [go_sem, tapeO_ren]
    refine cutE_of (by simp) ?_
    simp +decide -dsimp -implicitDefEqProofs [go_sem, tapeO]
  · by_cases h : fold (tapeV l k2) 2 = 0
    · rw [h] at c4
      simp +decide -dsimp -implicitDefEqProofs [go_sem]
      refine callE_frame [1] c4 rfl rfl (by simp) rfl (by simp +decide -dsimp -implicitDefEqProofs [go_sem, tapeO_ren]) ?_
      have hrr : ∀ is, renL is (rRow r) = rRow r := fun is => by unfold rRow; simp +decide -dsimp -implicitDefEqProofs [go_sem, renLL_sRows, renLL_aRows, renL, ren]
      unfold rRow at c5 ⊢
      simp +decide -dsimp -implicitDefEqProofs [go_sem, tapeO_ren]
      refine callE_frame [1] c5 rfl rfl (by simp) (by simp +decide -dsimp -implicitDefEqProofs [go_sem, renLL_sRows, renLL_aRows]) (by simp +decide -dsimp -implicitDefEqProofs [go_sem, tapeO_ren]) ?_
      simp +decide -dsimp -implicitDefEqProofs [go_sem, tapeO_ren, renLL_sRows, renLL_aRows]
      refine end_of (.agg (rRow r')) [] ⟨rfl, r', rfl, hf'⟩ rfl ?_
      simp +decide -dsimp -implicitDefEqProofs [go_sem, rRow]
    · simp +decide -dsimp -implicitDefEqProofs [go_sem]
      refine callE_frame [1] c4 rfl rfl (by simp) rfl (by simp +decide -dsimp -implicitDefEqProofs [go_sem, tapeO_ren]) ?_
      unfold rRow
      simp +decide -dsimp -implicitDefEqProofs [go_sem, tapeO_ren, h]
      refine end_of (.agg (rRow r)) [] ⟨rfl, r, rfl, hf⟩ rfl ?_
      simp +decide -dsimp -implicitDefEqProofs [go_sem, rRow]

/-! ### The example of the chapter -/
def r0 : Rcd := ⟨[47, 97], 3, [([65], [49])], [], [], [], [], [], 0, [114, 111, 111, 116], [100, 105, 115, 107], 432⟩
def s0 : List UInt8 := [80, 58, 47, 97, 10, 73, 58, 51, 10, 69, 58, 65, 61, 49, 10, 79, 58, 114, 111, 111, 116, 10, 81, 58, 100, 105, 115, 107, 10, 88, 58, 54, 54, 48, 10, 46, 10]
theorem r0_path : placeB [47, 97] = true := join_place (l := [[97]]) (by decide) (by simp) (by simp)
theorem r0_sound : soundB r0 = true := by
  have h1 : risAB [([65], [49])] 64 = true := by decide +kernel
  have h2 : validB [114, 111, 111, 116] = true := by decide +kernel
  have h3 : validB [100, 105, 115, 107] = true := by decide +kernel
  simp [soundB, r0, r0_path, h1, h2, h3, risB, ascB]
theorem d3 : baseT 10 3 = [51] := by
  have : digsB 10 3 = [51] := digsB_small (by decide)
  simp [baseT, this]
theorem d432 : baseT 8 432 = [54, 54, 48] := by
  have h1 : digsB 8 432 = [54, 54, 48] := by
    rw [digsB_big (by decide) (by decide), digsB_big (by decide) (by decide), digsB_small (by decide)]
    decide
  simp [baseT, h1]
theorem r0_enc : encT r0 = s0 := by
  simp [encT, r0, d3, lineT, linesT, filledT, numT, d432, attrT, s0]
theorem r0_few : Few r0 := (small_of r0_sound).few
theorem decV_of {r : Rcd} (h : soundB r = true) : decV (encT r) = .tup [.agg (rRow r), .int .i64 0] := by
  have hd : decS (encT r) := ⟨r, h, rfl⟩
  have := enc_inj hd.choose_spec.1 h hd.choose_spec.2
  rw [decV, dif_pos hd, this]
theorem nil0_few : Few nil0 := ⟨by simp [nil0], by simp [nil0], by simp [nil0], by simp [nil0], by simp [nil0], by simp [nil0], by simp [nil0], by simp [nil0], by simp [nil0], by simp [nil0]⟩
theorem nil0_chk : chkB nil0 = 250 := by simp [chkB, soundB, nil0, placeB, pathL]
theorem chk_ok {r : Rcd} (h : soundB r = true) : chkB r = 0 ∧ encS r = encT r := by simp [chkB, encS, h]

set_option maxRecDepth 20000 in
theorem known_c : ACalls Tryz.prog 13 [] [] (.bool true) [] := by
  refine acalls_F c13_ok rfl ?_
  unfold c13
  have e1 := Encode_c r0 r0_few
  rw [(chk_ok r0_sound).1, (chk_ok r0_sound).2, r0_enc] at e1
  have e2 := Decode_c s0 (by decide)
  have e3 := decV_of r0_sound
  rw [r0_enc] at e3
  rw [e3] at e2
  have e4 := pSame_c r0 r0 r0_few.fit r0_few.fit
  have e5 := Check_c nil0 nil0_few
  rw [nil0_chk] at e5
  have e6 : decide (r0 = r0) = true := by simp
  rw [e6] at e4
  have es : s0 = [80, 58, 47, 97, 10, 73, 58, 51, 10, 69, 58, 65, 61, 49, 10, 79, 58, 114, 111, 111, 116, 10, 81, 58, 100, 105, 115, 107, 10, 88, 58, 54, 54, 48, 10, 46, 10] := rfl
  rw [es] at e1 e2
  unfold rRow at e1 e2 e4 e5
  simp only [r0, nil0, List.map_cons, List.map_nil, aRow] at e1 e2 e4 e5
  simp +decide -dsimp -implicitDefEqProofs [go_sem]
  refine callE_borrow e1 (by simp +decide -dsimp -implicitDefEqProofs [go_sem]) rfl ?_
  simp +decide -dsimp -implicitDefEqProofs [go_sem]
  refine callE_pure e2 rfl rfl ?_
  simp +decide -dsimp -implicitDefEqProofs [go_sem]
  refine callE_borrow e4 (by simp +decide -dsimp -implicitDefEqProofs [go_sem]) rfl ?_
  simp +decide -dsimp -implicitDefEqProofs [go_sem]
  refine callE_borrow e5 (by simp +decide -dsimp -implicitDefEqProofs [go_sem]) rfl ?_
  simp +decide -dsimp -implicitDefEqProofs [go_sem]

/-! ### Whether a record is small: some answer, whatever it is -/
def bR (av : AV) (H : List AObj) : Prop := H = [] ∧ ∃ b, av = .bool b
set_option maxRecDepth 20000 in
set_option maxHeartbeats 2000000 in
theorem few_c (r : Rcd) (hr : Fit r) : ∃ b, ACalls Tryz.prog 12 [.agg (rRow r)] [] (.bool b) [] := by
  have key : ∃ av H', bR av H' ∧ ACalls Tryz.prog 12 [.agg (rRow r)] [] av H' := by
    refine acalls_E bR 0 c12_ok ?_
    unfold c12 rRow
    simp +decide -dsimp -implicitDefEqProofs [go_sem]
    refine loop_of (S := Nat × Int) (fun s => ⟨tmps 96 [(1, .ptr 0 0), (3, .int .i64 s.2), (4, .int .i64 s.1)], [.box 26 (rRow r)]⟩) (fun s => r.props.length - s.1) (fun s => s.1 ≤ r.props.length)
      (0, IntKind.i64.wrap (IntKind.i64.wrap (IntKind.i64.wrap ((r.path.length : Int) + r.name.length) + r.owner.length) + r.group.length)) (by simp) (cut_of (by simp) ?_) ?_
    · simp +decide -dsimp -implicitDefEqProofs [go_sem, rRow]
    rintro ⟨i, n⟩ hi
    simp only at hi
    have hp := hr.props
    unfold rRow
    by_cases h : i < r.props.length
    · have w : IntKind.i64.wrap ((i : Int) + 1) = i + 1 := w64 (by omega) (by omega)
      simp +decide -dsimp -implicitDefEqProofs [go_sem, h, w]
      refine next_of (i + 1, IntKind.i64.wrap (n + IntKind.i64.wrap ((r.props[i].1.length : Int) + r.props[i].2.length))) (by show i + 1 ≤ _; omega) (by show _ - (i + 1) < _ - i; omega) (cut_of (by simp) ?_)
      simp +decide -dsimp -implicitDefEqProofs [go_sem]
    have ei : i = r.props.length := by omega
    subst ei
    simp +decide -dsimp -implicitDefEqProofs [go_sem]
    -- the four lists
    obtain ⟨Ls, hLs⟩ : ∃ Ls : List (List (List UInt8)), Ls = [r.tags, r.links, r.run, r.load] := ⟨_, rfl⟩
    have hLl : Ls.length = 4 := by rw [hLs]; rfl
    have hLb : ∀ l ∈ Ls, l.length ≤ 9223372036854775807 := by
      rw [hLs]; intro l hl
      have := hr.tags; have := hr.links; have := hr.run; have := hr.load
      simp only [List.mem_cons, List.not_mem_nil, or_false] at hl
      rcases hl with rfl | rfl | rfl | rfl <;> assumption
    have hLr : [[AV.imm (r.tags.map sRow)], [AV.imm (r.links.map sRow)], [AV.imm (r.run.map sRow)], [AV.imm (r.load.map sRow)]] = Ls.map fun l => [AV.imm (l.map sRow)] := by rw [hLs]; rfl
    have hcl : ∀ k, closedLL k (Ls.map fun l => [AV.imm (l.map sRow)]) = true := fun k => closedLL_map fun x _ => by simp [go_sem]
    have hld : ∀ (l : List (List UInt8)) (K : AV → Prop), ldK none [AV.imm (l.map sRow)] K = K (.imm (l.map sRow)) := fun _ _ => rfl
    rw [hLr]
    clear hLr hLs
    refine loop_of (S := Nat × Int) (fun s => ⟨tmps 96 [(1, .ptr 0 0), (3, .int .i64 s.2), (5, .imm (Ls.map fun l => [AV.imm (l.map sRow)])), (6, .int .i64 s.1)], [.box 26 (rRow r)]⟩) (fun s => 4 - s.1) (fun s => s.1 ≤ 4) (0, n) (by simp) (cut_of (by simp) ?_) ?_
    · simp +decide -dsimp -implicitDefEqProofs [go_sem, rRow, hcl]
    clear n hi
    rintro ⟨i, n⟩ hi
    simp only at hi
    unfold rRow
    by_cases h : i < 4
    rotate_left
    · have ei : i = 4 := by omega
      subst ei
      by_cases h6 : n ≤ 6000
      · simp +decide -dsimp -implicitDefEqProofs [go_sem, hLl, h6]
        refine end_of (.bool (decide ((r.props.length : Int) ≤ 80))) [] ⟨rfl, _, rfl⟩ rfl ?_
        simp +decide -dsimp -implicitDefEqProofs [go_sem]
      · simp +decide -dsimp -implicitDefEqProofs [go_sem, hLl, h6]
        refine end_of (.bool false) [] ⟨rfl, _, rfl⟩ rfl ?_
        simp +decide -dsimp -implicitDefEqProofs [go_sem]
    have hiL : i < Ls.length := by omega
    have h4 : (i : Int) < 4 := by omega
    have wi : IntKind.i64.wrap ((i : Int) + 1) = i + 1 := w64 (by omega) (by omega)
    have hli := hLb _ (List.getElem_mem hiL)
    simp +decide -dsimp -implicitDefEqProofs [go_sem, hLl, h, h4]
    refine loop_of (S := Nat × Int) (fun s => ⟨tmps 96 [(1, .ptr 0 0), (3, .int .i64 s.2), (5, .imm (Ls.map fun l => [AV.imm (l.map sRow)])), (6, .int .i64 i), (7, .int .i64 s.1)], [.box 26 (rRow r)]⟩) (fun s => Ls[i].length - s.1) (fun s => s.1 ≤ Ls[i].length)
      (0, IntKind.i64.wrap (n + Ls[i].length)) (by simp) (cut_of (by simp) ?_) ?_
    · simp +decide -dsimp -implicitDefEqProofs [go_sem, rRow, hcl]
    rintro ⟨q, n⟩ hq
    simp only at hq
    unfold rRow
    by_cases h2 : q < Ls[i].length
    · have wq : IntKind.i64.wrap ((q : Int) + 1) = q + 1 := w64 (by omega) (by omega)
      simp +decide -dsimp -implicitDefEqProofs [go_sem, hLl, h, h2, wq]
      refine next_of (q + 1, IntKind.i64.wrap (n + (Ls[i][q].length : Int))) (by show q + 1 ≤ _; omega) (by show _ - (q + 1) < _ - q; omega) (cut_of (by simp) ?_)
      simp +decide -dsimp -implicitDefEqProofs [go_sem, hcl]
    · simp +decide -dsimp -implicitDefEqProofs [go_sem, hLl, h, h2, wi]
      refine next_of (i + 1, n) (by show i + 1 ≤ 4; omega) (by show 4 - (i + 1) < 4 - i; omega) (cut_of (by simp) ?_)
      simp +decide -dsimp -implicitDefEqProofs [go_sem, hcl]
  obtain ⟨_, _, ⟨rfl, b, rfl⟩, h⟩ := key
  exact ⟨b, h⟩
end Go.Ab
namespace Go.Ab
open Go Go.Proofs
theorem decV_no {s : List UInt8} (h : ¬ decS s) : decV s = .tup [.agg (rRow nil0), .int .i64 251] := by rw [decV, dif_neg h]
theorem rRow_ren (is : List Nat) (r : Rcd) : renL is (rRow r) = rRow r := by unfold rRow; simp +decide -dsimp -implicitDefEqProofs [go_sem, renLL_sRows, renLL_aRows]
theorem rRow_cl (k : Nat) (r : Rcd) : closedL k (rRow r) = true := by unfold rRow; simp +decide -dsimp -implicitDefEqProofs [go_sem]
theorem rRow_len (r : Rcd) : (rRow r).length = 12 := rfl
theorem chk_not {r : Rcd} (h : ¬ soundB r = true) : chkB r = 250 ∧ encS r = [] := by simp [chkB, encS, h]

set_option maxRecDepth 20000 in
set_option maxHeartbeats 2000000 in
theorem RecordOne_c (l : List Int) (at_ put : Int) : ACalls Tryz.prog 4 [tapeVs l, .int .i64 at_, .int .i64 put] [] (.bool true) [] := by
  obtain ⟨_, _, ⟨rfl, r, rfl, hf⟩, cm⟩ := made_c l
  have ce := Encode_c r hf
  refine acalls_F c4_ok rfl ?_
  unfold c4
  unfold tapeVs at cm ⊢
  have hcl := rRow_cl 0 r
  simp +decide -dsimp -implicitDefEqProofs [go_sem]
  refine callE_pure cm (by simp +decide -dsimp -implicitDefEqProofs [go_sem]) (by simp +decide -dsimp -implicitDefEqProofs [go_sem, rRow_cl]) ?_
  simp +decide -dsimp -implicitDefEqProofs [go_sem]
  refine callE_pure ce (by simp +decide -dsimp -implicitDefEqProofs [go_sem, rRow_cl]) rfl ?_
  by_cases hS : soundB r = true
  rotate_left
  · rw [(chk_not hS).1, (chk_not hS).2]
    simp +decide -dsimp -implicitDefEqProofs [go_sem]
    refine callE_pure known_c rfl rfl ?_
    simp +decide -dsimp -implicitDefEqProofs [go_sem]
  rw [(chk_ok hS).1, (chk_ok hS).2]
  have hsm := enc_small hS
  generalize encT r = s at hsm
  have w1 : IntKind.i64.wrap ((s.length : Int) + 1) = s.length + 1 := w64 (by omega) (by omega)
  have b1 := fold_bd at_ (s.length + 1) (by omega)
  have c1 := Fold_c at_ (s.length + 1) (by omega)
  obtain ⟨k, hk⟩ : ∃ k : Nat, fold at_ (s.length + 1) = k := ⟨_, (Int.toNat_of_nonneg b1.1).symm⟩
  rw [hk] at b1 c1
  have b2 := fold_bd put 128 (by omega)
  have c2 := Fold_c put 128 (by omega)
  obtain ⟨c, hc⟩ : ∃ c : Nat, fold put 128 = c := ⟨_, (Int.toNat_of_nonneg b2.1).symm⟩
  rw [hc] at b2 c2
  have b3 := fold_bd put 2 (by omega)
  have c3 := Fold_c put 2 (by omega)
  obtain ⟨g, hg⟩ : ∃ g : Nat, fold put 2 = g := ⟨_, (Int.toNat_of_nonneg b3.1).symm⟩
  rw [hg] at b3 c3
  have w2 : IntKind.u8.wrap (c : Int) = c := by rw [IntKind.wrap_u8]; omega
  have w3 : IntKind.i64.wrap ((k : Int) + g) = k + g := w64 (by omega) (by omega)
  have hu := unb_one (n := c) (by omega)
  obtain ⟨ch, hch⟩ : ∃ ch, ch = UInt8.ofNat c := ⟨_, rfl⟩
  rw [← hch] at hu
  have hks : k ≤ s.length := by omega
  have kmin : min k s.length = k := by omega
  simp +decide -dsimp -implicitDefEqProofs [go_sem, w1]
  refine callE_pure c1 rfl rfl ?_
  simp +decide -dsimp -implicitDefEqProofs [go_sem, hks]
  refine callDE_pure c2 rfl rfl ?_
  simp +decide -dsimp -implicitDefEqProofs [go_sem, w2, hu]
  refine ⟨by omega, ?_⟩
  refine callDE_pure c3 rfl rfl ?_
  have w4 : (if (s.length : Int) < (k : Int) + g then (s.length : Int) else (k : Int) + g) = ((min (k + g) s.length : Nat) : Int) := by split <;> omega
  obtain ⟨m, hm⟩ : ∃ m : Nat, m = min (k + g) s.length := ⟨_, rfl⟩
  rw [← hm] at w4
  have hms : m ≤ s.length := by omega
  simp +decide -dsimp -implicitDefEqProofs [go_sem, w3, w4, hms]
  have hlen : (s.take k ++ ch :: s.drop m).length < 50000000 := by simp; omega
  refine ⟨by omega, ?_⟩
  have cd := Decode_c (s.take k ++ ch :: s.drop m) hlen
  generalize s.take k ++ ch :: s.drop m = s' at cd
  by_cases hd : decS s'
  · obtain ⟨x, hx, rfl⟩ := hd
    rw [decV_of hx] at cd
    refine callE_pure cd rfl (by simp +decide -dsimp -implicitDefEqProofs [go_sem, rRow_cl]) ?_
    have ce := Encode_c x (small_of hx).few
    rw [(chk_ok hx).1, (chk_ok hx).2] at ce
    unfold rRow at ce ⊢
    simp +decide -dsimp -implicitDefEqProofs [go_sem]
    refine callE_pure ce (by simp +decide -dsimp -implicitDefEqProofs [go_sem]) rfl ?_
    simp +decide -dsimp -implicitDefEqProofs [go_sem]
    refine callE_pure known_c rfl rfl ?_
    simp +decide -dsimp -implicitDefEqProofs [go_sem]
  · rw [decV_no hd] at cd
    refine callE_pure cd rfl (by simp +decide -dsimp -implicitDefEqProofs [go_sem]) ?_
    unfold rRow
    simp +decide -dsimp -implicitDefEqProofs [go_sem, nil0]
    refine callE_pure known_c rfl rfl ?_
    simp +decide -dsimp -implicitDefEqProofs [go_sem]
end Go.Ab
namespace Go.Ab
open Go Go.Proofs
theorem splitC_flat2 {c : UInt8} {t : List UInt8} : ∀ {l : List (List UInt8)}, (∀ x ∈ l, c ∉ x) → splitC c (l.flatMap (· ++ [c]) ++ t) = l ++ splitC c t
  | [], _ => rfl
  | x :: l, h => by
    have e : (x :: l).flatMap (· ++ [c]) ++ t = x ++ c :: (l.flatMap (· ++ [c]) ++ t) := by simp
    rw [e, splitC_app (h x (by simp)), splitC_flat2 fun y hy => h y (by simp [hy])]; rfl
theorem splitC_one {c : UInt8} {t : List UInt8} (h : splitC c t = [[]]) : t = [] := by
  cases t with
  | nil => rfl
  | cons x r =>
    unfold splitC at h
    split at h
    · simp at h; exact absurd h (splitC_ne c r)
    · split at h <;> simp at h
theorem linesOf_front (r : Rcd) : ∃ f, linesOf r = f ++ [[46]] ∧ ∀ x ∈ f, 2 ≤ x.length := by
  refine ⟨(80 :: 58 :: r.path) :: (73 :: 58 :: baseT 10 r.index) :: ((r.props.map attrT).map (fun s => 69 :: 58 :: s) ++ (r.tags.map (fun s => 71 :: 58 :: s) ++ (r.links.map (fun s => 76 :: 58 :: s) ++ (r.run.map (fun s => 82 :: 58 :: s) ++ (r.load.map (fun s => 77 :: 58 :: s) ++
    ((if r.name = [] then [] else [78 :: 58 :: r.name]) ++ ((if r.owner = [] then [] else [79 :: 58 :: r.owner]) ++ ((if r.group = [] then [] else [81 :: 58 :: r.group]) ++
    ((if numT 10 r.prio = [] then [] else [89 :: 58 :: numT 10 r.prio]) ++ (if numT 8 r.mode = [] then [] else [88 :: 58 :: numT 8 r.mode])))))))))), by simp only [linesOf, List.cons_append, List.append_assoc], fun x hx => ?_⟩
  have mp : ∀ {b : UInt8} {l : List (List UInt8)}, x ∈ l.map (fun s => b :: 58 :: s) → 2 ≤ x.length := fun hx => by
    obtain ⟨y, _, rfl⟩ := List.mem_map.1 hx; simp
  have fl : ∀ {b : UInt8} {s : List UInt8}, x ∈ (if s = [] then [] else [b :: 58 :: s]) → 2 ≤ x.length := fun hx => by
    split at hx
    · simp at hx
    · simp at hx; subst hx; simp
  simp only [List.mem_cons, List.mem_append] at hx
  rcases hx with rfl | rfl | hx | hx | hx | hx | hx | hx | hx | hx | hx | hx
  · simp
  · simp
  · exact mp hx
  · exact mp hx
  · exact mp hx
  · exact mp hx
  · exact mp hx
  · exact fl hx
  · exact fl hx
  · exact fl hx
  · exact fl hx
  · exact fl hx
theorem enc_prefix {x y : Rcd} (hx : soundB x = true) (hy : soundB y = true) (h : encT y <+: encT x) : encT y = encT x := by
  obtain ⟨t, ht⟩ := h
  have e1 : linesOf y ++ splitC 10 t = linesOf x ++ [[]] := by
    rw [← splitC_flat2 (linesOf_nl (nice_of hy)), ← enc_flat, ht, enc_flat, splitC_flat (linesOf_nl (nice_of hx))]
  obtain ⟨fx, h1, h2⟩ := linesOf_front x
  obtain ⟨fy, h3, h4⟩ := linesOf_front y
  rw [h1, h3] at e1
  have hl : fy.length = fx.length := by
    rcases Nat.lt_trichotomy fy.length fx.length with h | h | h
    · have e2 := congrArg (fun l => l[fy.length]?) e1
      simp only [List.append_assoc] at e2
      rw [List.getElem?_append_right (Nat.le_refl _), List.getElem?_append_left h, List.getElem?_eq_getElem h] at e2
      simp only [Nat.sub_self, List.cons_append, List.getElem?_cons_zero, Option.some.injEq] at e2
      have := h2 _ (List.getElem_mem h)
      rw [← e2] at this
      simp at this
    · exact h
    · have e2 := congrArg (fun l => l[fx.length]?) e1
      simp only [List.append_assoc] at e2
      rw [List.getElem?_append_left h, List.getElem?_append_right (Nat.le_refl _), List.getElem?_eq_getElem h] at e2
      simp only [Nat.sub_self, List.cons_append, List.getElem?_cons_zero, Option.some.injEq] at e2
      have := h4 _ (List.getElem_mem h)
      rw [e2] at this
      simp at this
  have e3 := (List.append_inj e1 (by simp [hl])).2
  have e4 := splitC_one e3
  rw [← ht, e4, List.append_nil]
theorem not_prefix {x y : Rcd} (hx : soundB x = true) (hy : soundB y = true) (hne : encT x ≠ encT y) : (encT y).isPrefixOf (encT x) = false := by
  rw [Bool.eq_false_iff]
  intro h
  exact hne (enc_prefix hx hy (List.isPrefixOf_iff_prefix.1 h)).symm
theorem no_begin {x : Rcd} (hx : soundB x = true) {k : Nat} (hk : k < (encT x).length) : ¬ decS ((encT x).take k) := by
  rintro ⟨y, hy, he⟩
  have h := enc_prefix hx hy (he ▸ List.take_prefix k (encT x))
  rw [he] at h
  have := congrArg List.length h
  rw [List.length_take] at this
  omega
theorem enc_pos (x : Rcd) : 0 < (encT x).length := by rw [encT]; simp [lineT]

set_option maxRecDepth 20000 in
set_option maxHeartbeats 2000000 in
theorem RecordBeginnings_c (a b : List Int) (n : Int) : ACalls Tryz.prog 7 [tapeVs a, tapeVs b, .int .i64 n] [] (.bool true) [] := by
  obtain ⟨_, _, ⟨rfl, x, rfl, hfx⟩, cx⟩ := made_c a
  obtain ⟨_, _, ⟨rfl, y, rfl, hfy⟩, cy⟩ := made_c b
  have ex := Encode_c x hfx
  have ey := Encode_c y hfy
  have hsame := rSame_c x y hfx.fit hfy.fit
  refine acalls_F c7_ok rfl ?_
  unfold c7
  unfold tapeVs at cx cy ⊢
  unfold rRow at *
  simp +decide -dsimp -implicitDefEqProofs [go_sem]
  refine callE_pure cx (by simp +decide -dsimp -implicitDefEqProofs [go_sem]) (by simp +decide -dsimp -implicitDefEqProofs [go_sem]) ?_
  simp +decide -dsimp -implicitDefEqProofs [go_sem]
  refine callE_pure cy (by simp +decide -dsimp -implicitDefEqProofs [go_sem]) (by simp +decide -dsimp -implicitDefEqProofs [go_sem]) ?_
  simp +decide -dsimp -implicitDefEqProofs [go_sem]
  refine callE_pure ex (by simp +decide -dsimp -implicitDefEqProofs [go_sem]) rfl ?_
  simp +decide -dsimp -implicitDefEqProofs [go_sem]
  refine callE_pure ey (by simp +decide -dsimp -implicitDefEqProofs [go_sem]) rfl ?_
  by_cases hS : soundB x = true
  rotate_left
  · rw [(chk_not hS).1]
    simp +decide -dsimp -implicitDefEqProofs [go_sem]
    refine callE_pure known_c rfl rfl ?_
    simp +decide -dsimp -implicitDefEqProofs [go_sem]
  rw [(chk_ok hS).1, (chk_ok hS).2]
  by_cases hT : soundB y = true
  rotate_left
  · rw [(chk_not hT).1]
    simp +decide -dsimp -implicitDefEqProofs [go_sem]
    refine callE_pure known_c rfl rfl ?_
    simp +decide -dsimp -implicitDefEqProofs [go_sem]
  rw [(chk_ok hT).1, (chk_ok hT).2]
  have hpx := enc_pos x
  have hsx := enc_small hS
  have hsy := enc_small hT
  simp +decide -dsimp -implicitDefEqProofs [go_sem]
  refine callE_pure hsame (by simp +decide -dsimp -implicitDefEqProofs [go_sem]) rfl ?_
  have tail : True := trivial
  by_cases hxy : x = y
  · subst hxy
    simp +decide -dsimp -implicitDefEqProofs [go_sem]
    have b1 := fold_bd n (encT x).length (by omega)
    have c1 := Fold_c n (encT x).length (by omega)
    obtain ⟨k, hk⟩ : ∃ k : Nat, fold n (encT x).length = k := ⟨_, (Int.toNat_of_nonneg b1.1).symm⟩
    rw [hk] at b1 c1
    have hkl : k < (encT x).length := by omega
    have hkl2 : k ≤ (encT x).length := by omega
    have cd := Decode_c ((encT x).take k) (by simp; omega)
    rw [decV_no (no_begin hS hkl)] at cd
    unfold rRow at cd
    refine callE_pure c1 rfl rfl ?_
    simp +decide -dsimp -implicitDefEqProofs [go_sem, hkl2]
    refine callE_pure cd rfl (by simp +decide -dsimp -implicitDefEqProofs [go_sem]) ?_
    simp +decide -dsimp -implicitDefEqProofs [go_sem]
    refine callE_pure known_c rfl rfl ?_
    simp +decide -dsimp -implicitDefEqProofs [go_sem]
  · have hne : encT x ≠ encT y := fun h => hxy (enc_inj hS hT h)
    have p1 := not_prefix hS hT hne
    have p2 := not_prefix hT hS (Ne.symm hne)
    simp +decide -dsimp -implicitDefEqProofs [go_sem, hxy, hne]
    refine callE_pure (HasPrefix_c (encT x) (encT y) (by omega)) rfl rfl ?_
    simp +decide -dsimp -implicitDefEqProofs [go_sem, p1, hne]
    refine callE_pure (HasPrefix_c (encT y) (encT x) (by omega)) rfl rfl ?_
    simp +decide -dsimp -implicitDefEqProofs [go_sem, p2, hne]
    have b1 := fold_bd n (encT x).length (by omega)
    have c1 := Fold_c n (encT x).length (by omega)
    obtain ⟨k, hk⟩ : ∃ k : Nat, fold n (encT x).length = k := ⟨_, (Int.toNat_of_nonneg b1.1).symm⟩
    rw [hk] at b1 c1
    have hkl : k < (encT x).length := by omega
    have hkl2 : k ≤ (encT x).length := by omega
    have cd := Decode_c ((encT x).take k) (by simp; omega)
    rw [decV_no (no_begin hS hkl)] at cd
    unfold rRow at cd
    refine callE_pure c1 rfl rfl ?_
    simp +decide -dsimp -implicitDefEqProofs [go_sem, hkl2]
    refine callE_pure cd rfl (by simp +decide -dsimp -implicitDefEqProofs [go_sem]) ?_
    simp +decide -dsimp -implicitDefEqProofs [go_sem]
    refine callE_pure known_c rfl rfl ?_
    simp +decide -dsimp -implicitDefEqProofs [go_sem]
end Go.Ab
namespace Go.Ab
open Go Go.Proofs
theorem sound_index {r : Rcd} {i : Int} (h : soundB r = true) (hi : 1 ≤ i ∧ i ≤ 1073741824) : soundB { r with index := i } = true := by
  unfold soundB at h ⊢
  simp only [Bool.and_eq_true, decide_eq_true_eq] at h ⊢
  simp_all

set_option maxRecDepth 20000 in
set_option maxHeartbeats 4000000 in
theorem RecordSecond_c (l : List Int) (index : Int) (tag : List UInt8) (_htag : tag.length ≤ 9223372036854775807) : ACalls Tryz.prog 5 [tapeVs l, .int .i64 index, .str tag] [] (.bool true) [] := by
  obtain ⟨_, _, ⟨p, k1, rfl, rfl, hp, hk1⟩, c1⟩ := mPath_c l 0 (by decide)
  have c2 := Next_c l k1 9 (by omega) (by omega)
  have b2 := fold_bd (tapeV l k1) 9 (by omega)
  generalize fold (tapeV l k1) 9 = f at c2 b2
  have w1 : IntKind.i64.wrap (1 + f) = 1 + f := w64 (by omega) (by omega)
  obtain ⟨_, _, ⟨r, k2, rfl, rfl, hS, _, _, hk2⟩, c3⟩ := mRecord_c l (k1 + 1) p (1 + f) (by omega) hp (by omega)
  have c4 := Fold_c index 20 (by omega)
  have b4 := fold_bd index 20 (by omega)
  generalize fold index 20 = g at c4 b4
  have w2 : IntKind.i64.wrap (1 + g) = 1 + g := w64 (by omega) (by omega)
  have hsm := small_of hS
  have hf := hsm.few
  obtain ⟨x, hx⟩ : ∃ x, x = { r with index := 1 + g } := ⟨_, rfl⟩
  obtain ⟨y, hy⟩ : ∃ y, y = { r with tags := r.tags ++ [tag] } := ⟨_, rfl⟩
  have hxS : soundB x = true := hx ▸ sound_index hS (by omega)
  have hxf := (small_of hxS).few
  have ht := hsm.tags
  have hyf : Few y := by rw [hy]; exact ⟨hf.path, by show (r.tags ++ _).length < _; simp; omega, hf.props, hf.vals, hf.links, hf.link, hf.runs, hf.rn, hf.loads, hf.ld⟩
  have er := Encode_c r hf
  have ex := Encode_c x hxf
  have ey := Encode_c y hyf
  rw [(chk_ok hS).1, (chk_ok hS).2] at er
  rw [(chk_ok hxS).1, (chk_ok hxS).2] at ex
  have sx := pSame_c r x hf.fit hxf.fit
  have sy := pSame_c r y hf.fit hyf.fit
  have hry : ¬ r = y := fun h => by
    have := congrArg (fun z => z.tags.length) h
    rw [hy] at this; simp at this
  have hrx : (r = x) ↔ (1 + g = r.index) := by
    rw [hx]
    constructor
    · intro h; have := congrArg (·.index) h; simpa using this.symm
    · intro h; rw [h]
  have hex : (encT r = encT x) ↔ (1 + g = r.index) := ⟨fun h => hrx.1 (enc_inj hS hxS h), fun h => by rw [← hrx.2 h]⟩
  have d1 : decide (r = x) = decide (1 + g = r.index) := by rw [decide_eq_decide]; exact hrx
  have d2 : decide (r = y) = false := by simpa using hry
  rw [d1] at sx
  rw [d2] at sy
  refine acalls_A c5_ok rfl ?_
  unfold c5 tapeVs
  refine awp_cut ⟨tmps 106 [(0, tapeVs l), (1, .int .i64 index), (2, .str tag)], []⟩ (awp_of ?_) (awp_cut ⟨tmps 106 [(1, .int .i64 index), (2, .str tag), (7, .ptr 0 0)], [tapeO l 0]⟩ (awp_of ?_)
    (awp_cut ⟨tmps 106 [(1, .int .i64 index), (2, .str tag), (8, .ptr 1 0)], [tapeO l k2, .box 26 (rRow r)]⟩ (awp_of ?_)
    (awp_cut ⟨tmps 106 [(1, .int .i64 index), (2, .str tag), (8, .ptr 1 0), (9, .ptr 2 0), (10, .ptr 3 0)], [tapeO l k2, .box 26 (rRow r), .box 26 (rRow r), .box 26 (rRow r)]⟩ (awp_of ?_)
    (awp_cut ⟨tmps 106 [(2, .str tag), (8, .ptr 1 0), (9, .ptr 2 0), (10, .ptr 3 0)], [tapeO l k2, .box 26 (rRow r), .box 26 (rRow x), .box 26 (rRow r)]⟩ (awp_of ?_)
    (awp_cut ⟨tmps 106 [(8, .ptr 1 0), (9, .ptr 2 0), (10, .ptr 3 0)], [tapeO l k2, .box 26 (rRow r), .box 26 (rRow x), .box 26 (rRow y)]⟩ (awp_of ?_) (awp_of ?_))))))
  · simp +decide -dsimp -implicitDefEqProofs [go_sem]
    refine cutE_of (by simp) ?_
    simp +decide -dsimp -implicitDefEqProofs [go_sem, tapeVs]
  · unfold tapeVs
    simp +decide -dsimp -implicitDefEqProofs [go_sem]
    refine cutE_of (by simp) ?_
    simp +decide -dsimp -implicitDefEqProofs [go_sem, tapeO]
  · simp +decide -dsimp -implicitDefEqProofs [go_sem]
    refine callE_frame [0] c1 rfl rfl (by simp) rfl (by simp +decide -dsimp -implicitDefEqProofs [go_sem, tapeO_ren]) ?_
    simp +decide -dsimp -implicitDefEqProofs [go_sem, tapeO_ren]
    refine callE_frame [0] c2 rfl rfl (by simp) rfl (by simp +decide -dsimp -implicitDefEqProofs [go_sem, tapeO_ren]) ?_
    simp +decide -dsimp -implicitDefEqProofs [go_sem, tapeO_ren, w1]
    refine callE_frame [0] c3 rfl rfl (by simp) rfl (by simp +decide -dsimp -implicitDefEqProofs [go_sem, tapeO_ren]) ?_
    unfold rRow
    simp +decide -dsimp -implicitDefEqProofs [go_sem, tapeO_ren]
    refine cutE_of (by simp) ?_
    simp +decide -dsimp -implicitDefEqProofs [go_sem, tapeO]
  · unfold rRow
    simp +decide -dsimp -implicitDefEqProofs [go_sem]
    refine cutE_of (by simp) ?_
    simp +decide -dsimp -implicitDefEqProofs [go_sem, tapeO]
  · unfold rRow
    simp +decide -dsimp -implicitDefEqProofs [go_sem]
    refine callE_pure c4 rfl rfl ?_
    simp +decide -dsimp -implicitDefEqProofs [go_sem, w2]
    refine cutE_of (by simp) ?_
    simp +decide -dsimp -implicitDefEqProofs [go_sem, hx, tapeO]
  · unfold rRow
    simp +decide -dsimp -implicitDefEqProofs [go_sem, maxLen]
    refine ⟨⟨by omega, by omega⟩, ⟨by omega, by omega⟩, ?_⟩
    have eR : r.tags.map sRow ++ [[AV.str tag]] = (r.tags ++ [tag]).map sRow := by simp [sRow]
    rw [eR]
    refine cutE_of (by simp) ?_
    simp +decide -dsimp -implicitDefEqProofs [go_sem, hy, tapeO, sRow_closed]
  · have hix : x.index = 1 + g := by rw [hx]
    unfold rRow at *
    rw [hix] at ex sx
    by_cases hi : 1 + g = r.index
    · have h1 : encT r = encT x := hex.2 hi
      rw [hi] at ex sx hix
      simp +decide -dsimp -implicitDefEqProofs [go_sem, hix]
      refine callE_pure er (by simp +decide -dsimp -implicitDefEqProofs [go_sem]) rfl ?_
      simp +decide -dsimp -implicitDefEqProofs [go_sem]
      refine callE_pure ex (by simp +decide -dsimp -implicitDefEqProofs [go_sem]) rfl ?_
      simp +decide -dsimp -implicitDefEqProofs [go_sem]
      refine callE_pure ey (by simp +decide -dsimp -implicitDefEqProofs [go_sem]) rfl ?_
      simp +decide -dsimp -implicitDefEqProofs [go_sem, h1]
      refine callDE_pure sx (by simp +decide -dsimp -implicitDefEqProofs [go_sem]) rfl ?_
      simp +decide -dsimp -implicitDefEqProofs [go_sem]
      refine callDE_pure sy (by simp +decide -dsimp -implicitDefEqProofs [go_sem]) rfl ?_
      by_cases hyS : soundB y = true
      · have hne : ¬ encT y = encT r := fun h => hry (enc_inj hyS hS h).symm
        have hne2 : (encT y == encT r) = false := by simp [hne]
        have hne3 : ¬ encT y = encT x := by rw [← h1]; exact hne
        simp +decide -dsimp -implicitDefEqProofs [go_sem, (chk_ok hyS).1, (chk_ok hyS).2, hne3]
        refine callE_pure known_c rfl rfl ?_
        simp +decide -dsimp -implicitDefEqProofs [go_sem]
      · simp +decide -dsimp -implicitDefEqProofs [go_sem, (chk_not hyS).1, (chk_not hyS).2]
        refine callE_pure known_c rfl rfl ?_
        simp +decide -dsimp -implicitDefEqProofs [go_sem]
    · have h1 : ¬ encT r = encT x := fun h => hi (hex.1 h)
      have hb1 : (encT r == encT x) = false := by simp [h1]
      have hb2 : ((1 + g : Int) == r.index) = false := by simp [hi]
      simp +decide -dsimp -implicitDefEqProofs [go_sem, hix]
      refine callE_pure er (by simp +decide -dsimp -implicitDefEqProofs [go_sem]) rfl ?_
      simp +decide -dsimp -implicitDefEqProofs [go_sem]
      refine callE_pure ex (by simp +decide -dsimp -implicitDefEqProofs [go_sem]) rfl ?_
      simp +decide -dsimp -implicitDefEqProofs [go_sem]
      refine callE_pure ey (by simp +decide -dsimp -implicitDefEqProofs [go_sem]) rfl ?_
      simp +decide -dsimp -implicitDefEqProofs [go_sem, hb1, hb2]
      refine callDE_pure sx (by simp +decide -dsimp -implicitDefEqProofs [go_sem]) rfl ?_
      simp +decide -dsimp -implicitDefEqProofs [go_sem, hi, hb2]
      refine callDE_pure sy (by simp +decide -dsimp -implicitDefEqProofs [go_sem]) rfl ?_
      by_cases hyS : soundB y = true
      · have hne : ¬ encT y = encT r := fun h => hry (enc_inj hyS hS h).symm
        have hne2 : (encT y == encT r) = false := by simp [hne]
        simp +decide -dsimp -implicitDefEqProofs [go_sem, (chk_ok hyS).1, (chk_ok hyS).2, hne2]
        refine callE_pure known_c rfl rfl ?_
        simp +decide -dsimp -implicitDefEqProofs [go_sem]
      · simp +decide -dsimp -implicitDefEqProofs [go_sem, (chk_not hyS).1, (chk_not hyS).2]
        refine callE_pure known_c rfl rfl ?_
        simp +decide -dsimp -implicitDefEqProofs [go_sem]
end Go.Ab
