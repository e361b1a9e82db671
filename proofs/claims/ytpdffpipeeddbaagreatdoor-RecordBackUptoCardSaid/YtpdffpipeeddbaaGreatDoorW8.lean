/- The program: Decode. -/
import Derived.Test.YtpdffpipeeddbaaGreatDoorW7
namespace Go.Ab
open Go Go.Proofs
theorem listP_facts (b : UInt8) {s : List UInt8} : ∀ {r : List UInt8}, r <:+ s → (listP b r).2 <:+ s ∧ (listP b r).1.length + (listP b r).2.length ≤ r.length ∧ ∀ x ∈ (listP b r).1, x.length ≤ r.length := by
  intro r
  generalize hn : r.length = n
  induction n using Nat.strongRecOn generalizing r with
  | _ n ih =>
    intro h
    subst hn
    cases hp : lineP b r with
    | none =>
      rw [listP_none hp]
      exact ⟨h, by simp, by simp⟩
    | some p =>
      have h1 := lineP_suf hp h
      obtain ⟨g1, g2, g3⟩ := ih p.2.length (by omega) rfl h1.1
      rw [listP_some hp]
      refine ⟨g1, by simp; omega, fun x hx => ?_⟩
      rcases List.mem_cons.1 hx with rfl | hx
      · omega
      · have := g3 x hx; omega
theorem line1_len (b : UInt8) {r s : List UInt8} (h : r <:+ s) : (line1 b r).1.length ≤ s.length := by
  have := suf_le h
  unfold line1; split
  · rename_i p hp; have := (lineP_suf hp h).2; omega
  · simp
theorem attrP_len (t : List UInt8) : (attrP t).1.length ≤ t.length ∧ (attrP t).2.length ≤ t.length := by
  unfold attrP
  split
  · rename_i p hp
    obtain ⟨h1, _⟩ := cutL_some (a := p.1) (b := p.2) hp
    rw [h1]; simp; omega
  · simp

set_option maxRecDepth 20000 in
set_option maxHeartbeats 2000000 in
theorem Decode_c (s : List UInt8) (hl : s.length < 50000000) : ACalls Tryz.prog 17 [.str s] [] (decV s) [] := by
  have hl' : s.length < 4294967281 := by omega
  -- the reading
  obtain ⟨r1, hr1⟩ : ∃ x, x = (line1 80 s).2 := ⟨_, rfl⟩
  obtain ⟨vp, hvp⟩ : ∃ x, x = (line1 80 s).1 := ⟨_, rfl⟩
  have s1 : r1 <:+ s := hr1 ▸ line1_suf (List.suffix_refl s)
  have cP := line_c s s 80 (List.suffix_refl s) hl'
  rw [← hr1, ← hvp] at cP
  obtain ⟨ni, ni1, _, cI⟩ := rnumber_c s r1 73 10 (.inr rfl) s1 hl'
  obtain ⟨r2, hr2⟩ : ∃ x, x = (line1 73 r1).2 := ⟨_, rfl⟩
  have s2 : r2 <:+ s := hr2 ▸ line1_suf s1
  rw [← hr2] at cI
  have cE := list_c s r2 69 s2 hl'
  have fE := listP_facts 69 s2
  obtain ⟨vE, hvE⟩ : ∃ x, x = (listP 69 r2).1 := ⟨_, rfl⟩
  obtain ⟨r3, hr3⟩ : ∃ x, x = (listP 69 r2).2 := ⟨_, rfl⟩
  rw [← hvE, ← hr3] at cE fE
  have s3 : r3 <:+ s := fE.1
  have cG := list_c s r3 71 s3 hl'
  have fG := listP_facts 71 s3
  obtain ⟨vG, hvG⟩ : ∃ x, x = (listP 71 r3).1 := ⟨_, rfl⟩
  obtain ⟨r4, hr4⟩ : ∃ x, x = (listP 71 r3).2 := ⟨_, rfl⟩
  rw [← hvG, ← hr4] at cG fG
  have s4 : r4 <:+ s := fG.1
  have cL := list_c s r4 76 s4 hl'
  have fL := listP_facts 76 s4
  obtain ⟨vL, hvL⟩ : ∃ x, x = (listP 76 r4).1 := ⟨_, rfl⟩
  obtain ⟨r5, hr5⟩ : ∃ x, x = (listP 76 r4).2 := ⟨_, rfl⟩
  rw [← hvL, ← hr5] at cL fL
  have s5 : r5 <:+ s := fL.1
  have cR := list_c s r5 82 s5 hl'
  have fR := listP_facts 82 s5
  obtain ⟨vR, hvR⟩ : ∃ x, x = (listP 82 r5).1 := ⟨_, rfl⟩
  obtain ⟨r6, hr6⟩ : ∃ x, x = (listP 82 r5).2 := ⟨_, rfl⟩
  rw [← hvR, ← hr6] at cR fR
  have s6 : r6 <:+ s := fR.1
  have cM := list_c s r6 77 s6 hl'
  have fM := listP_facts 77 s6
  obtain ⟨vM, hvM⟩ : ∃ x, x = (listP 77 r6).1 := ⟨_, rfl⟩
  obtain ⟨r7, hr7⟩ : ∃ x, x = (listP 77 r6).2 := ⟨_, rfl⟩
  rw [← hvM, ← hr7] at cM fM
  have s7 : r7 <:+ s := fM.1
  have cN := line_c s r7 78 s7 hl'
  have gN := line1_len 78 s7
  obtain ⟨vN, hvN⟩ : ∃ x, x = (line1 78 r7).1 := ⟨_, rfl⟩
  obtain ⟨r8, hr8⟩ : ∃ x, x = (line1 78 r7).2 := ⟨_, rfl⟩
  rw [← hvN, ← hr8] at cN
  rw [← hvN] at gN
  have s8 : r8 <:+ s := hr8 ▸ line1_suf s7
  have cO := line_c s r8 79 s8 hl'
  have gO := line1_len 79 s8
  obtain ⟨vO, hvO⟩ : ∃ x, x = (line1 79 r8).1 := ⟨_, rfl⟩
  obtain ⟨r9, hr9⟩ : ∃ x, x = (line1 79 r8).2 := ⟨_, rfl⟩
  rw [← hvO, ← hr9] at cO
  rw [← hvO] at gO
  have s9 : r9 <:+ s := hr9 ▸ line1_suf s8
  have cQ := line_c s r9 81 s9 hl'
  have gQ := line1_len 81 s9
  obtain ⟨vQ, hvQ⟩ : ∃ x, x = (line1 81 r9).1 := ⟨_, rfl⟩
  obtain ⟨r10, hr10⟩ : ∃ x, x = (line1 81 r9).2 := ⟨_, rfl⟩
  rw [← hvQ, ← hr10] at cQ
  rw [← hvQ] at gQ
  have s10 : r10 <:+ s := hr10 ▸ line1_suf s9
  obtain ⟨ny, ny1, ny0, cY⟩ := rnumber_c s r10 89 10 (.inr rfl) s10 hl'
  obtain ⟨r11, hr11⟩ : ∃ x, x = (line1 89 r10).2 := ⟨_, rfl⟩
  have s11 : r11 <:+ s := hr11 ▸ line1_suf s10
  rw [← hr11] at cY
  obtain ⟨nx, nx1, nx0, cX⟩ := rnumber_c s r11 88 8 (.inl rfl) s11 hl'
  obtain ⟨r12, hr12⟩ : ∃ x, x = (line1 88 r11).2 := ⟨_, rfl⟩
  rw [← hr12] at cX
  have gP := line1_len 80 (List.suffix_refl s)
  rw [← hvp] at gP
  obtain ⟨wE, hwE⟩ : ∃ w, w = vE.map attrP := ⟨_, rfl⟩
  have hwl : wE.length = vE.length := by rw [hwE, List.length_map]
  obtain ⟨x, hx⟩ : ∃ x : Rcd, x = ⟨vp, ni, wE, vG, vL, vR, vM, vN, ny, vO, vQ, nx⟩ := ⟨_, rfl⟩
  -- what was encoded is read
  have hback : ∀ r, soundB r = true → encT r = s → x = r := by
    intro r hS he
    have hn := nice_of hS
    have R := reads hn
    have Rp := R.p
    rw [he] at Rp
    have e1 : vp = r.path := by rw [hvp, Rp]
    have e2 : r1 = tl1 r := by rw [hr1, Rp]
    subst e2
    have e3 : r2 = tl2 r := by rw [hr2, R.i]
    have e4 : ni = r.index := ni1 _ (by have := hn.index; omega) (by rw [R.i])
    subst e3
    have e5 : vE = r.props.map attrT := by rw [hvE, R.e]
    have e6 : r3 = tl3 r := by rw [hr3, R.e]
    subst e6
    have e7 : vG = r.tags := by rw [hvG, R.g]
    have e8 : r4 = tl4 r := by rw [hr4, R.g]
    subst e8
    have e9 : vL = r.links := by rw [hvL, R.l]
    have e10 : r5 = tl5 r := by rw [hr5, R.l]
    subst e10
    have e11 : vR = r.run := by rw [hvR, R.rn]
    have e12 : r6 = tl6 r := by rw [hr6, R.rn]
    subst e12
    have e13 : vM = r.load := by rw [hvM, R.m]
    have e14 : r7 = tl7 r := by rw [hr7, R.m]
    subst e14
    have e15 : vN = r.name := by rw [hvN, R.n]
    have e16 : r8 = tl8 r := by rw [hr8, R.n]
    subst e16
    have e17 : vO = r.owner := by rw [hvO, R.o]
    have e18 : r9 = tl9 r := by rw [hr9, R.o]
    subst e18
    have e19 : vQ = r.group := by rw [hvQ, R.q]
    have e20 : r10 = tl10 r := by rw [hr10, R.q]
    subst e20
    have e21 : r11 = tl11 r := by rw [hr11, R.y]
    have e22 : ny = r.prio := by
      by_cases h0 : r.prio = 0
      · rw [h0]; exact ny0 (by rw [R.y, (numT_nil (by decide) (by decide)).2 h0])
      · exact ny1 _ (by have := hn.prio; omega) (by rw [R.y]; simp [numT, h0])
    subst e21
    have e23 : nx = r.mode := by
      by_cases h0 : r.mode = 0
      · rw [h0]; exact nx0 (by rw [R.x, (numT_nil (by decide) (by decide)).2 h0])
      · exact nx1 _ (by have := hn.mode; rw [p10_8]; omega) (by rw [R.x]; simp [numT, h0])
    rw [hx, hwE, e1, e4, e5, e7, e9, e11, e13, e15, e17, e19, e22, e23, attrsP hn]
  have hfew : Few x := by
    have l2 := suf_le s2; have l3 := suf_le s3; have l4 := suf_le s4; have l5 := suf_le s5; have l6 := suf_le s6
    subst hx
    refine ⟨?_, ?_, ?_, ?_, ?_, ?_, ?_, ?_, ?_, ?_⟩ <;> simp only
    · omega
    · have := fG.2.1; omega
    · have := fE.2.1; omega
    · intro p hp
      rw [hwE] at hp
      obtain ⟨t, ht, rfl⟩ := List.mem_map.1 hp
      have := fE.2.2 t ht
      have := (attrP_len t).2
      omega
    · have := fL.2.1; omega
    · intro y hy; have := fL.2.2 y hy; omega
    · have := fR.2.1; omega
    · intro y hy; have := fR.2.2 y hy; omega
    · have := fM.2.1; omega
    · intro y hy; have := fM.2.2 y hy; omega
  have cEnc := Encode_c x hfew
  refine acalls_A c17_ok rfl ?_
  unfold c17
  have hV : decV s = if soundB x = true ∧ encT x = s then .tup [.agg (rRow x), .int .i64 0] else .tup [.agg (rRow nil0), .int .i64 251] := by
    unfold decV
    by_cases hd : decS s
    · have hc := hd.choose_spec
      have hxc := hback _ hc.1 hc.2
      rw [dif_pos hd, if_pos ⟨hxc ▸ hc.1, hxc ▸ hc.2⟩, hxc]
    · rw [dif_neg hd, if_neg fun h => hd ⟨x, h⟩]
  refine awp_cut ⟨tmps 85 [(0, .str s), (2, .ptr 0 0), (3, .int .i64 0)], [.box 26 [.str [], .int .i64 0, .nils, .nils, .nils, .nils, .nils, .str [], .int .i64 0, .str [], .str [], .int .i64 0]]⟩ (awp_of ?_) (awp_cut ⟨tmps 85 [(0, .str s), (2, .ptr 0 0), (3, .int .i64 0), (4, .ptr 1 0)], [.box 26 [.str [], .int .i64 0, .nils, .nils, .nils, .nils, .nils, .str [], .int .i64 0, .str [], .str [], .int .i64 0], rdR s s]⟩ (awp_of ?_)
    (awp_cut ⟨tmps 85 [(0, .str s), (2, .ptr 0 0), (3, .int .i64 0), (4, .ptr 1 0), (5, .ptr 2 0)], [.box 26 [.str [], .int .i64 0, .nils, .nils, .nils, .nils, .nils, .str [], .int .i64 0, .str [], .str [], .int .i64 0], rdR s s, .box 26 [.str [], .int .i64 0, .nils, .nils, .nils, .nils, .nils, .str [], .int .i64 0, .str [], .str [], .int .i64 0]]⟩ (awp_of ?_) (awp_cut ⟨tmps 85 [(0, .str s), (2, .ptr 0 0), (3, .int .i64 0), (4, .ptr 1 0), (5, .ptr 2 0)], [.box 26 [.str [], .int .i64 0, .nils, .nils, .nils, .nils, .nils, .str [], .int .i64 0, .str [], .str [], .int .i64 0], rdR s r1, .box 26 [.str vp, .int .i64 0, .nils, .nils, .nils, .nils, .nils, .str [], .int .i64 0, .str [], .str [], .int .i64 0]]⟩ (awp_of ?_) (awp_cut ⟨tmps 85 [(0, .str s), (2, .ptr 0 0), (3, .int .i64 0), (4, .ptr 1 0), (5, .ptr 2 0)], [.box 26 [.str [], .int .i64 0, .nils, .nils, .nils, .nils, .nils, .str [], .int .i64 0, .str [], .str [], .int .i64 0], rdR s r2, .box 26 [.str vp, .int .i64 ni, .nils, .nils, .nils, .nils, .nils, .str [], .int .i64 0, .str [], .str [], .int .i64 0]]⟩ (awp_of ?_) (awp_cut ⟨tmps 85 [(0, .str s), (2, .ptr 0 0), (3, .int .i64 0), (4, .ptr 1 0), (5, .ptr 2 0)], [.box 26 [.str [], .int .i64 0, .nils, .nils, .nils, .nils, .nils, .str [], .int .i64 0, .str [], .str [], .int .i64 0], rdR s r3, .box 26 [.str vp, .int .i64 ni, .imm (wE.map aRow), .nils, .nils, .nils, .nils, .str [], .int .i64 0, .str [], .str [], .int .i64 0]]⟩ (awp_of ?_) (awp_of ?_))))))
  · simp +decide -dsimp -implicitDefEqProofs [go_sem]
    refine cutE_of (by simp) ?_
    simp +decide -dsimp -implicitDefEqProofs [go_sem]
  · simp +decide -dsimp -implicitDefEqProofs [go_sem]
    refine cutE_of (by simp) ?_
    simp +decide -dsimp -implicitDefEqProofs [go_sem, rdR, rdO]
  · simp +decide -dsimp -implicitDefEqProofs [go_sem]
    refine cutE_of (by simp) ?_
    simp +decide -dsimp -implicitDefEqProofs [go_sem, rdR, rdO]
  · simp +decide -dsimp -implicitDefEqProofs [go_sem]
    refine callE_frame [1] cP rfl rfl (by simp) (by simp +decide -dsimp -implicitDefEqProofs [go_sem]) (by simp +decide -dsimp -implicitDefEqProofs [go_sem, rdR_ren]) ?_
    simp +decide -dsimp -implicitDefEqProofs [go_sem, rdR_ren]
    refine cutE_of (by simp) ?_
    simp +decide -dsimp -implicitDefEqProofs [go_sem, rdR, rdO]
  · simp +decide -dsimp -implicitDefEqProofs [go_sem]
    refine callE_frame [1] cI rfl rfl (by simp) (by simp +decide -dsimp -implicitDefEqProofs [go_sem]) (by simp +decide -dsimp -implicitDefEqProofs [go_sem, rdR_ren]) ?_
    simp +decide -dsimp -implicitDefEqProofs [go_sem, rdR_ren]
    refine cutE_of (by simp) ?_
    simp +decide -dsimp -implicitDefEqProofs [go_sem, rdR, rdO]
  · -- the attributes
    have fE2 := fE.2.1
    have l2 := suf_le s2
    simp +decide -dsimp -implicitDefEqProofs [go_sem]
    refine callE_frame [1] cE rfl rfl (by simp) (by simp +decide -dsimp -implicitDefEqProofs [go_sem]) (by simp +decide -dsimp -implicitDefEqProofs [go_sem, rdR_ren]) ?_
    simp +decide -dsimp -implicitDefEqProofs [go_sem, rdR_ren, renLL_sRows]
    refine loop_of (S := Nat) (fun i => ⟨tmps 85 [(0, .str s), (2, .ptr 0 0), (3, .int .i64 0), (4, .ptr 1 0), (5, .ptr 2 0), (23, .imm (vE.map sRow)), (24, .int .i64 vE.length), (25, .int .i64 i)], [.box 26 [.str [], .int .i64 0, .nils, .nils, .nils, .nils, .nils, .str [], .int .i64 0, .str [], .str [], .int .i64 0], rdR s r3, .box 26 [.str vp, .int .i64 ni, .own 3 i, .nils, .nils, .nils, .nils, .str [], .int .i64 0, .str [], .str [], .int .i64 0], .reg 57 2 ((wE.take i).map aRow)]⟩) (fun i => vE.length - i)
      (fun i => i ≤ vE.length) 0 (by simp) ((Wk.nilB 2 2 57 2 rfl rfl (by simp)).trans (cut_of (by simp) ?_)) ?_
    · simp +decide -dsimp -implicitDefEqProofs [go_sem, rdR, rdO]
    intro i hi
    by_cases h : i < vE.length
    · have w : IntKind.i64.wrap ((i : Int) + 1) = i + 1 := w64 (by omega) (by omega)
      have hvl := fE.2.2 _ (List.getElem_mem h)
      have hcut := Cut_c vE[i] 61 (by omega)
      have hcl : closed 0 (cutA 61 vE[i]) = true := by unfold cutA; split <;> simp [go_sem]
      have eA : ∃ b, cutA 61 vE[i] = .tup [.str (attrP vE[i]).1, .str (attrP vE[i]).2, .bool b] := by
        cases hq : cutL 61 vE[i] <;> simp [cutA, attrP, hq]
      obtain ⟨b, eA⟩ := eA
      have hiw : i < wE.length := by omega
      have ew : wE[i] = attrP vE[i] := by simp [hwE]
      have hmin : min i wE.length = i := by omega
      have eR : List.take i (List.map aRow wE) ++ [[AV.str (attrP vE[i]).1, AV.str (attrP vE[i]).2]] = List.map aRow (wE.take (i + 1)) := by
        rw [List.take_succ_eq_append_getElem hiw, List.map_append, ew, List.map_take]; rfl
      simp +decide -dsimp -implicitDefEqProofs [go_sem, h]
      refine callE_pure hcut rfl hcl ?_
      rw [eA]
      simp +decide -dsimp -implicitDefEqProofs [go_sem, hmin, maxLen, w, -List.map_take]
      refine ⟨⟨by omega, by omega⟩, ?_⟩
      rw [eR]
      refine next_of (i + 1) (by omega) (by omega) (cut_of (by simp) ?_)
      simp +decide -dsimp -implicitDefEqProofs [go_sem, rdR, rdO, -List.map_take]
    · have e : i = vE.length := by omega
      subst e
      have hmin : wE.take vE.length = wE := by rw [← hwl, List.take_length]
      rw [hmin]
      simp +decide -dsimp -implicitDefEqProofs [go_sem]
      refine cutE_of (by simp) ?_
      simp +decide -dsimp -implicitDefEqProofs [go_sem, rdR, rdO, hwl]
  simp +decide -dsimp -implicitDefEqProofs [go_sem]
  refine callE_frame [1] cG rfl rfl (by simp) (by simp +decide -dsimp -implicitDefEqProofs [go_sem]) (by simp +decide -dsimp -implicitDefEqProofs [go_sem, rdR_ren]) ?_
  simp +decide -dsimp -implicitDefEqProofs [go_sem, rdR_ren]
  refine callE_frame [1] cL rfl rfl (by simp) (by simp +decide -dsimp -implicitDefEqProofs [go_sem]) (by simp +decide -dsimp -implicitDefEqProofs [go_sem, rdR_ren]) ?_
  simp +decide -dsimp -implicitDefEqProofs [go_sem, rdR_ren]
  refine callE_frame [1] cR rfl rfl (by simp) (by simp +decide -dsimp -implicitDefEqProofs [go_sem]) (by simp +decide -dsimp -implicitDefEqProofs [go_sem, rdR_ren]) ?_
  simp +decide -dsimp -implicitDefEqProofs [go_sem, rdR_ren]
  refine callE_frame [1] cM rfl rfl (by simp) (by simp +decide -dsimp -implicitDefEqProofs [go_sem]) (by simp +decide -dsimp -implicitDefEqProofs [go_sem, rdR_ren]) ?_
  simp +decide -dsimp -implicitDefEqProofs [go_sem, rdR_ren]
  refine callE_frame [1] cN rfl rfl (by simp) (by simp +decide -dsimp -implicitDefEqProofs [go_sem]) (by simp +decide -dsimp -implicitDefEqProofs [go_sem, rdR_ren]) ?_
  simp +decide -dsimp -implicitDefEqProofs [go_sem, rdR_ren]
  refine callE_frame [1] cO rfl rfl (by simp) (by simp +decide -dsimp -implicitDefEqProofs [go_sem]) (by simp +decide -dsimp -implicitDefEqProofs [go_sem, rdR_ren]) ?_
  simp +decide -dsimp -implicitDefEqProofs [go_sem, rdR_ren]
  refine callE_frame [1] cQ rfl rfl (by simp) (by simp +decide -dsimp -implicitDefEqProofs [go_sem]) (by simp +decide -dsimp -implicitDefEqProofs [go_sem, rdR_ren]) ?_
  simp +decide -dsimp -implicitDefEqProofs [go_sem, rdR_ren]
  refine callE_frame [1] cY rfl rfl (by simp) (by simp +decide -dsimp -implicitDefEqProofs [go_sem]) (by simp +decide -dsimp -implicitDefEqProofs [go_sem, rdR_ren]) ?_
  simp +decide -dsimp -implicitDefEqProofs [go_sem, rdR_ren]
  refine callE_frame [1] cX rfl rfl (by simp) (by simp +decide -dsimp -implicitDefEqProofs [go_sem]) (by simp +decide -dsimp -implicitDefEqProofs [go_sem, rdR_ren]) ?_
  simp +decide -dsimp -implicitDefEqProofs [go_sem, rdR_ren]
  have hrow : AV.agg [.str vp, .int .i64 ni, .imm (wE.map aRow), .imm (vG.map sRow), .imm (vL.map sRow), .imm (vR.map sRow), .imm (vM.map sRow), .str vN, .int .i64 ny, .str vO, .str vQ, .int .i64 nx] = .agg (rRow x) := by rw [hx]; rfl
  rw [← hrow] at cEnc
  refine callE_pure cEnc (by simp [go_sem]) rfl ?_
  rw [hV]
  by_cases hS : soundB x = true
  · have e1 : encS x = encT x := by simp [encS, hS]
    have e2 : chkB x = 0 := by simp [chkB, hS]
    rw [e1, e2]
    by_cases he : encT x = s
    · rw [if_pos ⟨hS, he⟩, ← hrow]
      simp +decide -dsimp -implicitDefEqProofs [go_sem, he]
    · rw [if_neg fun h => he h.2]
      simp +decide -dsimp -implicitDefEqProofs [go_sem, he, rRow, nil0]
  · have e2 : chkB x = 250 := by simp [chkB, hS]
    rw [e2, if_neg fun h => hS h.1]
    simp +decide -dsimp -implicitDefEqProofs [go_sem, rRow, nil0]
end Go.Ab
namespace Go.Ab
open Go Go.Proofs
theorem valB_bd {b : Nat} (hb : b ≤ 10) (l : List UInt8) : (valB b l).natAbs ≤ 300 * 11 ^ l.length := by
  have key : ∀ (n : Nat) (l : List UInt8), l.length = n → (valB b l).natAbs ≤ 300 * 11 ^ n := by
    intro n
    induction n with
    | zero => intro l h; rw [List.eq_nil_of_length_eq_zero h]; simp [valB]
    | succ n ih =>
      intro l h
      obtain ⟨l', c, rfl⟩ : ∃ l' c, l = l' ++ [c] := ⟨l.dropLast, l.getLast (by intro e; subst e; simp at h), (List.dropLast_concat_getLast _).symm⟩
      rw [valB_snoc]
      have h1 := ih l' (by simpa using h)
      have h2 : c.toNat < 256 := c.toNat_lt
      have h3 : 1 ≤ 11 ^ n := Nat.one_le_pow _ _ (by decide)
      have h4 : (valB b l' * (b : Int)).natAbs ≤ 300 * 11 ^ n * 10 := by
        rw [Int.natAbs_mul]
        exact Nat.mul_le_mul h1 (by simpa using hb)
      rw [Nat.pow_succ]
      omega
  exact key _ l rfl
theorem valB_bd10 {b : Nat} (hb : b ≤ 10) {l : List UInt8} (h : l.length ≤ 10) : (valB b l).natAbs ≤ 10000000000000 := by
  have h1 := valB_bd hb l
  have h2 : 11 ^ l.length ≤ 11 ^ 10 := Nat.pow_le_pow_right (by decide) h
  have h3 : (11 : Nat) ^ 10 = 25937424601 := by decide
  omega

set_option maxRecDepth 20000 in
set_option maxHeartbeats 1000000 in
theorem rNumber_c (s : List UInt8) (b : Nat) (hb : b = 8 ∨ b = 10) (hl : s.length < 9223372036854775807) : ACalls Tryz.prog 59 [.str s, .int .i64 b] [] (.int .i64 (refN b s)) [] := by
  have hb10 : b ≤ 10 := by omega
  -- the loop over the digits
  refine acalls_A c59_ok rfl ?_
  unfold c59
  obtain ⟨t, ht⟩ : ∃ t, t = if s.take 1 = [45] then s.drop 1 else s := ⟨_, rfl⟩
  obtain ⟨g, hg⟩ : ∃ g : Int, g = if s.take 1 = [45] then -1 else 1 := ⟨_, rfl⟩
  have hr : refN b s = g * (if t.length ≤ 10 then valB b t else 0) := by rw [refN, ← ht, ← hg]
  have hgb : g = -1 ∨ g = 1 := by rw [hg]; split <;> simp
  have htl : t.length ≤ s.length := by rw [ht]; split <;> simp
  have e45 : (45 : UInt8).toNat = 45 := rfl
  rw [hr]
  refine awp_cut ⟨tmps 40 [(0, .str s), (1, .int .i64 b), (4, .int .i64 0)], []⟩ (awp_of ?_) (awp_cut ⟨tmps 40 [(0, .str s), (1, .int .i64 b), (4, .int .i64 0), (5, .int .i64 1), (6, .int .i64 0)], []⟩ (awp_of ?_)
    (awp_cut ⟨tmps 40 [(0, .str t), (1, .int .i64 b), (4, .int .i64 0), (5, .int .i64 g), (6, .int .i64 0)], []⟩ (awp_of ?_) (awp_of ?_)))
  · simp +decide -dsimp -implicitDefEqProofs [go_sem]
    refine cutE_of (by simp) ?_
    simp +decide -dsimp -implicitDefEqProofs [go_sem]
  · simp +decide -dsimp -implicitDefEqProofs [go_sem]
    refine cutE_of (by simp) ?_
    simp +decide -dsimp -implicitDefEqProofs [go_sem]
  · cases s with
    | nil =>
      have h1 : t = [] := by rw [ht]; rfl
      have h2 : g = 1 := by rw [hg]; rfl
      rw [h1, h2]
      simp +decide -dsimp -implicitDefEqProofs [go_sem]
      refine cutE_of (by simp) ?_
      simp +decide -dsimp -implicitDefEqProofs [go_sem]
    | cons c r =>
      by_cases h : c = 45
      · subst h
        have h1 : t = r := by rw [ht]; simp
        have h2 : g = -1 := by rw [hg]; simp
        rw [h1, h2]
        simp +decide -dsimp -implicitDefEqProofs [go_sem]
        refine cutE_of (by simp) ?_
        simp +decide -dsimp -implicitDefEqProofs [go_sem]
      · have h1 : t = c :: r := by rw [ht]; simp [h]
        have h2 : g = 1 := by rw [hg]; simp [h]
        have h3 : ¬ (c.toNat : Int) = 45 := fun e => h (UInt8.toNat_inj.1 (by omega))
        rw [h1, h2]
        simp +decide -dsimp -implicitDefEqProofs [go_sem, h3]
        refine cutE_of (by simp) ?_
        simp +decide -dsimp -implicitDefEqProofs [go_sem]
  by_cases h10 : t.length ≤ 10
  rotate_left
  · have h10' : ¬ (t.length : Int) ≤ 10 := by omega
    rw [if_neg h10]
    have w0 : IntKind.i64.wrap 0 = 0 := by decide
    have hpos : (0 : Int) < t.length := by omega
    have hpos2 : 0 < t.length := by omega
    simp +decide -dsimp -implicitDefEqProofs [go_sem]
    refine loop_of (S := Unit) (fun _ => ⟨tmps 40 [(0, .str t), (1, .int .i64 b), (4, .int .i64 0), (5, .int .i64 g), (6, .int .i64 0), (7, .int .i64 0)], []⟩) (fun _ => 0) (fun _ => True) () trivial (cut_of (by simp) ?_) ?_
    · simp +decide -dsimp -implicitDefEqProofs [go_sem]
    intro _ _
    simp +decide -dsimp -implicitDefEqProofs [go_sem, h10', hpos2, w0]
  rw [if_pos h10]
  have h10' : (t.length : Int) ≤ 10 := by omega
  simp +decide -dsimp -implicitDefEqProofs [go_sem]
  refine loop_of (S := Nat) (fun i => ⟨tmps 40 [(0, .str t), (1, .int .i64 b), (4, .int .i64 0), (5, .int .i64 g), (6, .int .i64 (valB b (t.take i))), (7, .int .i64 i)], []⟩) (fun i => t.length - i) (fun i => i ≤ t.length) 0 (by simp) (cut_of (by simp) ?_) ?_
  · simp +decide -dsimp -implicitDefEqProofs [go_sem, valB]
  intro i hi
  have b1 := valB_bd10 hb10 (l := t.take i) (by simp; omega)
  by_cases h : i < t.length
  · have w : IntKind.i64.wrap ((i : Int) + 1) = i + 1 := w64 (by omega) (by omega)
    have hc256 : t[i].toNat < 256 := t[i].toNat_lt
    have b2 : (valB b (t.take i) * (b : Int)).natAbs ≤ 10000000000000 * 10 := by
      rw [Int.natAbs_mul]; exact Nat.mul_le_mul b1 (by simpa using hb10)
    have w1 : IntKind.i64.wrap (valB b (t.take i) * (b : Int)) = valB b (t.take i) * (b : Int) := w64 (by omega) (by omega)
    have w2 : IntKind.i64.wrap (t[i].toNat : Int) = t[i].toNat := w64 (by omega) (by omega)
    have w3 : IntKind.i64.wrap (valB b (t.take i) * (b : Int) + t[i].toNat) = valB b (t.take i) * (b : Int) + t[i].toNat := w64 (by omega) (by omega)
    have w4 : IntKind.i64.wrap (valB b (t.take i) * (b : Int) + t[i].toNat - 48) = valB b (t.take i) * (b : Int) + t[i].toNat - 48 := w64 (by omega) (by omega)
    have e : valB b (t.take i) * (b : Int) + t[i].toNat - 48 = valB b (t.take (i + 1)) := by
      rw [List.take_succ_eq_append_getElem h, valB_snoc]; omega
    simp +decide -dsimp -implicitDefEqProofs [go_sem, h, h10', w, w1, w2, w3, w4]
    rw [e]
    refine next_of (i + 1) (by omega) (by omega) (cut_of (by simp) ?_)
    simp +decide -dsimp -implicitDefEqProofs [go_sem]
  · have e : i = t.length := by omega
    subst e
    rw [List.take_length] at b1 ⊢
    have w1 : IntKind.i64.wrap (g * valB b t) = g * valB b t := by
      rcases hgb with rfl | rfl
      · exact w64 (by omega) (by omega)
      · exact w64 (by omega) (by omega)
    simp +decide -dsimp -implicitDefEqProofs [go_sem, w1]
end Go.Ab
namespace Go.Ab
open Go Go.Proofs
/-- Bounds of what was read of some lines. -/
structure Bd (m i : Nat) (x : Rcd) : Prop where
  path : x.path.length ≤ m
  props : x.props.length ≤ i
  vals : ∀ p ∈ x.props, p.2.length ≤ m
  tags : x.tags.length ≤ i
  links : x.links.length ≤ i
  link : ∀ y ∈ x.links, y.length ≤ m
  runs : x.run.length ≤ i
  run : ∀ y ∈ x.run, y.length ≤ m
  loads : x.load.length ≤ i
  load : ∀ y ∈ x.load, y.length ≤ m
theorem stepR_cases {P : Rcd → Prop} {x : Rcd} {l : List UInt8} (h0 : P x) (h1 : P { x with path := l.drop 2 }) (h2 : P { x with index := refN 10 (l.drop 2) }) (h3 : P { x with props := x.props ++ [attrP (l.drop 2)] }) (h4 : P { x with tags := x.tags ++ [l.drop 2] }) (h5 : P { x with links := x.links ++ [l.drop 2] }) (h6 : P { x with run := x.run ++ [l.drop 2] }) (h7 : P { x with load := x.load ++ [l.drop 2] }) (h8 : P { x with name := l.drop 2 }) (h9 : P { x with owner := l.drop 2 }) (h10 : P { x with group := l.drop 2 }) (h11 : P { x with prio := refN 10 (l.drop 2) }) (h12 : P { x with mode := refN 8 (l.drop 2) }) : P (stepR x l) := by
  by_cases g0 : l.length < 2
  · have e : stepR x l = x := by simp [stepR, g0]
    rw [e]; exact h0
  by_cases g1 : l.take 2 = [80, 58]
  · have e : stepR x l = { x with path := l.drop 2 } := by simp +decide [stepR, g0, g1]
    rw [e]; exact h1
  by_cases g2 : l.take 2 = [73, 58]
  · have e : stepR x l = { x with index := refN 10 (l.drop 2) } := by simp +decide [stepR, g0, g2]
    rw [e]; exact h2
  by_cases g3 : l.take 2 = [69, 58]
  · have e : stepR x l = { x with props := x.props ++ [attrP (l.drop 2)] } := by simp +decide [stepR, g0, g3]
    rw [e]; exact h3
  by_cases g4 : l.take 2 = [71, 58]
  · have e : stepR x l = { x with tags := x.tags ++ [l.drop 2] } := by simp +decide [stepR, g0, g4]
    rw [e]; exact h4
  by_cases g5 : l.take 2 = [76, 58]
  · have e : stepR x l = { x with links := x.links ++ [l.drop 2] } := by simp +decide [stepR, g0, g5]
    rw [e]; exact h5
  by_cases g6 : l.take 2 = [82, 58]
  · have e : stepR x l = { x with run := x.run ++ [l.drop 2] } := by simp +decide [stepR, g0, g6]
    rw [e]; exact h6
  by_cases g7 : l.take 2 = [77, 58]
  · have e : stepR x l = { x with load := x.load ++ [l.drop 2] } := by simp +decide [stepR, g0, g7]
    rw [e]; exact h7
  by_cases g8 : l.take 2 = [78, 58]
  · have e : stepR x l = { x with name := l.drop 2 } := by simp +decide [stepR, g0, g8]
    rw [e]; exact h8
  by_cases g9 : l.take 2 = [79, 58]
  · have e : stepR x l = { x with owner := l.drop 2 } := by simp +decide [stepR, g0, g9]
    rw [e]; exact h9
  by_cases g10 : l.take 2 = [81, 58]
  · have e : stepR x l = { x with group := l.drop 2 } := by simp +decide [stepR, g0, g10]
    rw [e]; exact h10
  by_cases g11 : l.take 2 = [89, 58]
  · have e : stepR x l = { x with prio := refN 10 (l.drop 2) } := by simp +decide [stepR, g0, g11]
    rw [e]; exact h11
  by_cases g12 : l.take 2 = [88, 58]
  · have e : stepR x l = { x with mode := refN 8 (l.drop 2) } := by simp +decide [stepR, g0, g12]
    rw [e]; exact h12
  have e : stepR x l = x := by simp only [stepR, g0, g1, g2, g3, g4, g5, g6, g7, g8, g9, g10, g11, g12, if_false]
  rw [e]; exact h0
theorem Bd.step {m i : Nat} {x : Rcd} {l : List UInt8} (h : Bd m i x) (hl : l.length ≤ m) : Bd m (i + 1) (stepR x l) := by
  obtain ⟨h1, h2, h3, h4, h5, h6, h7, h8, h9, h10⟩ := h
  have hd : (l.drop 2).length ≤ m := by simp; omega
  have ha : (attrP (l.drop 2)).2.length ≤ m := Nat.le_trans (attrP_len _).2 hd
  have app : ∀ {L : List (List UInt8)}, (∀ y ∈ L, y.length ≤ m) → ∀ y ∈ L ++ [l.drop 2], y.length ≤ m := fun hL y hy => by
    rcases List.mem_append.1 hy with hy | hy
    · exact hL y hy
    · rw [List.mem_singleton.1 hy]; exact hd
  have appA : ∀ p ∈ x.props ++ [attrP (l.drop 2)], p.2.length ≤ m := fun p hp => by
    rcases List.mem_append.1 hp with hp | hp
    · exact h3 p hp
    · rw [List.mem_singleton.1 hp]; exact ha
  exact stepR_cases (P := Bd m (i + 1)) ⟨h1, Nat.le_succ_of_le h2, h3, Nat.le_succ_of_le h4, Nat.le_succ_of_le h5, h6, Nat.le_succ_of_le h7, h8, Nat.le_succ_of_le h9, h10⟩
    ⟨hd, Nat.le_succ_of_le h2, h3, Nat.le_succ_of_le h4, Nat.le_succ_of_le h5, h6, Nat.le_succ_of_le h7, h8, Nat.le_succ_of_le h9, h10⟩
    ⟨h1, Nat.le_succ_of_le h2, h3, Nat.le_succ_of_le h4, Nat.le_succ_of_le h5, h6, Nat.le_succ_of_le h7, h8, Nat.le_succ_of_le h9, h10⟩
    ⟨h1, by simp only [List.length_append, List.length_cons, List.length_nil]; omega, appA, Nat.le_succ_of_le h4, Nat.le_succ_of_le h5, h6, Nat.le_succ_of_le h7, h8, Nat.le_succ_of_le h9, h10⟩
    ⟨h1, Nat.le_succ_of_le h2, h3, by simp only [List.length_append, List.length_cons, List.length_nil]; omega, Nat.le_succ_of_le h5, h6, Nat.le_succ_of_le h7, h8, Nat.le_succ_of_le h9, h10⟩
    ⟨h1, Nat.le_succ_of_le h2, h3, Nat.le_succ_of_le h4, by simp only [List.length_append, List.length_cons, List.length_nil]; omega, app h6, Nat.le_succ_of_le h7, h8, Nat.le_succ_of_le h9, h10⟩
    ⟨h1, Nat.le_succ_of_le h2, h3, Nat.le_succ_of_le h4, Nat.le_succ_of_le h5, h6, by simp only [List.length_append, List.length_cons, List.length_nil]; omega, app h8, Nat.le_succ_of_le h9, h10⟩
    ⟨h1, Nat.le_succ_of_le h2, h3, Nat.le_succ_of_le h4, Nat.le_succ_of_le h5, h6, Nat.le_succ_of_le h7, h8, by simp only [List.length_append, List.length_cons, List.length_nil]; omega, app h10⟩
    ⟨h1, Nat.le_succ_of_le h2, h3, Nat.le_succ_of_le h4, Nat.le_succ_of_le h5, h6, Nat.le_succ_of_le h7, h8, Nat.le_succ_of_le h9, h10⟩
    ⟨h1, Nat.le_succ_of_le h2, h3, Nat.le_succ_of_le h4, Nat.le_succ_of_le h5, h6, Nat.le_succ_of_le h7, h8, Nat.le_succ_of_le h9, h10⟩
    ⟨h1, Nat.le_succ_of_le h2, h3, Nat.le_succ_of_le h4, Nat.le_succ_of_le h5, h6, Nat.le_succ_of_le h7, h8, Nat.le_succ_of_le h9, h10⟩
    ⟨h1, Nat.le_succ_of_le h2, h3, Nat.le_succ_of_le h4, Nat.le_succ_of_le h5, h6, Nat.le_succ_of_le h7, h8, Nat.le_succ_of_le h9, h10⟩
    ⟨h1, Nat.le_succ_of_le h2, h3, Nat.le_succ_of_le h4, Nat.le_succ_of_le h5, h6, Nat.le_succ_of_le h7, h8, Nat.le_succ_of_le h9, h10⟩
def xBox (x : Rcd) : AObj := .box 26 [.str x.path, .int .i64 x.index, .own 2 x.props.length, .own 3 x.tags.length, .own 4 x.links.length, .own 5 x.run.length, .own 6 x.load.length, .str x.name, .int .i64 x.prio, .str x.owner, .str x.group, .int .i64 x.mode]
def xH (x : Rcd) : List AObj := [.box 26 [.str [], .int .i64 0, .nils, .nils, .nils, .nils, .nils, .str [], .int .i64 0, .str [], .str [], .int .i64 0], xBox x, .reg 57 2 (x.props.map aRow), .reg 9 1 (x.tags.map sRow), .reg 9 1 (x.links.map sRow), .reg 9 1 (x.run.map sRow), .reg 9 1 (x.load.map sRow)]
theorem sRow_snoc (l : List (List UInt8)) (x : List UInt8) : l.map sRow ++ [[AV.str x]] = (l ++ [x]).map sRow := by simp [sRow]
theorem aRow_snoc (l : List (List UInt8 × List UInt8)) (p : List UInt8 × List UInt8) : l.map aRow ++ [[AV.str p.1, AV.str p.2]] = (l ++ [p]).map aRow := by simp [aRow]
theorem cutA_attr (t : List UInt8) : ∃ b, cutA 61 t = .tup [.str (attrP t).1, .str (attrP t).2, .bool b] := by
  cases hq : cutL 61 t <;> simp [cutA, attrP, hq]

set_option maxRecDepth 20000 in
set_option maxHeartbeats 4000000 in
theorem rDecode_c (s : List UInt8) (hl : s.length < 50000000) : ACalls Tryz.prog 30 [.str s] [] (decV s) [] := by
  refine acalls_A c30_ok rfl ?_
  unfold c30
  have hsp := Split_c s 10 (by omega)
  have hL1 := splitL_length_le s 10
  have hL2 : ∀ x ∈ splitL s 10, x.length ≤ s.length := fun x hx => splitL_small hx
  obtain ⟨L, hL⟩ : ∃ L, L = splitL s 10 := ⟨_, rfl⟩
  rw [← hL] at hsp hL1 hL2
  obtain ⟨x, hx⟩ : ∃ x, x = L.foldl stepR nil0 := ⟨_, rfl⟩
  have hback : ∀ r, soundB r = true → encT r = s → x = r := fun r hS he => by
    have := fold_enc (nice_of hS)
    rw [he, ← splitL_eq, ← hL, ← hx] at this
    exact this
  have hV : decV s = if soundB x = true ∧ encT x = s then .tup [.agg (rRow x), .int .i64 0] else .tup [.agg (rRow nil0), .int .i64 251] := by
    unfold decV
    by_cases hd : decS s
    · have hc := hd.choose_spec
      have hxc := hback _ hc.1 hc.2
      rw [dif_pos hd, if_pos ⟨hxc ▸ hc.1, hxc ▸ hc.2⟩, hxc]
    · rw [dif_neg hd, if_neg fun h => hd ⟨x, h⟩]
  have hbd : ∀ i, i ≤ L.length → Bd s.length i ((L.take i).foldl stepR nil0) := by
    intro i
    induction i with
    | zero => intro _; simp only [List.take_zero, List.foldl_nil]; exact ⟨by simp [nil0], by simp [nil0], by simp [nil0], by simp [nil0], by simp [nil0], by simp [nil0], by simp [nil0], by simp [nil0], by simp [nil0], by simp [nil0]⟩
    | succ i ih =>
      intro h
      rw [List.take_succ_eq_append_getElem (by omega), List.foldl_append]
      exact (ih (by omega)).step (hL2 _ (List.getElem_mem _))
  refine awp_cut ⟨tmps 125 [(0, .str s), (2, .ptr 0 0), (3, .int .i64 0)], [.box 26 [.str [], .int .i64 0, .nils, .nils, .nils, .nils, .nils, .str [], .int .i64 0, .str [], .str [], .int .i64 0]]⟩ (awp_of ?_) (awp_cut ⟨tmps 125 [(0, .str s), (2, .ptr 0 0), (3, .int .i64 0), (4, .ptr 1 0)], xH nil0⟩ (awp_of ?_)
    (awp_cut ⟨tmps 125 [(0, .str s), (2, .ptr 0 0), (3, .int .i64 0), (4, .ptr 1 0), (5, .imm (L.map sRow))], xH nil0⟩ (awp_of ?_)
    (awp_cut ⟨tmps 125 [(0, .str s), (2, .ptr 0 0), (3, .int .i64 0), (4, .ptr 1 0)], [.box 26 [.str [], .int .i64 0, .nils, .nils, .nils, .nils, .nils, .str [], .int .i64 0, .str [], .str [], .int .i64 0], .box 26 (rRow x)]⟩ (awp_of ?_) (awp_of ?_))))
  · simp +decide -dsimp -implicitDefEqProofs [go_sem]
    refine cutE_of (by simp) ?_
    simp +decide -dsimp -implicitDefEqProofs [go_sem]
  · simp +decide -dsimp -implicitDefEqProofs [go_sem]
    refine Wk.trans (Wk.nilB 1 2 57 2 rfl rfl (by simp)) (Wk.trans (Wk.nilB 1 3 9 1 rfl rfl (by simp)) (Wk.trans (Wk.nilB 1 4 9 1 rfl rfl (by simp)) (Wk.trans (Wk.nilB 1 5 9 1 rfl rfl (by simp)) (Wk.trans (Wk.nilB 1 6 9 1 rfl rfl (by simp)) (cut_of (by simp) ?_)))))
    simp +decide -dsimp -implicitDefEqProofs [go_sem, xH, xBox, nil0]
  · unfold xH xBox
    simp +decide -dsimp -implicitDefEqProofs [go_sem]
    refine callE_pure hsp rfl (by simp [go_sem]) ?_
    simp +decide -dsimp -implicitDefEqProofs [go_sem]
    refine cutE_of (by simp) ?_
    simp +decide -dsimp -implicitDefEqProofs [go_sem, nil0]
  · simp +decide -dsimp -implicitDefEqProofs [go_sem]
    refine loop_of (S := Nat × Rcd) (fun t => ⟨tmps 125 [(0, .str s), (2, .ptr 0 0), (3, .int .i64 0), (4, .ptr 1 0), (5, .imm (L.map sRow)), (6, .int .i64 t.1)], xH t.2⟩) (fun t => L.length - t.1)
      (fun t => t.1 ≤ L.length ∧ t.2 = (L.take t.1).foldl stepR nil0) (0, nil0) (by simp) (cut_of (by simp) ?_) ?_
    · simp +decide -dsimp -implicitDefEqProofs [go_sem, xH, xBox, nil0]
    rintro ⟨i, y⟩ ⟨hi, hy⟩
    simp only at hi hy
    by_cases h : i < L.length
    rotate_left
    · have e : i = L.length := by omega
      subst e
      rw [List.take_length, ← hx] at hy
      subst hy
      unfold xH xBox
      simp +decide -dsimp -implicitDefEqProofs [go_sem]
      refine cutE_of (by simp) ?_
      simp +decide -dsimp -implicitDefEqProofs [go_sem, rRow]
    have hB := hy ▸ hbd i hi
    have w : IntKind.i64.wrap ((i : Int) + 1) = i + 1 := w64 (by omega) (by omega)
    have hstep : stepR y L[i] = (L.take (i + 1)).foldl stepR nil0 := by
      rw [List.take_succ_eq_append_getElem h, List.foldl_append, ← hy]; rfl
    have hlen := hL2 _ (List.getElem_mem h)
    have hB1 := hB.props; have hB2 := hB.tags; have hB3 := hB.links; have hB4 := hB.runs; have hB5 := hB.loads
    have nx : ∀ {T : List AV} {H : List AObj} {k : Nat} {u}, (z : Rcd) → stepR y L[i] = z → Wk 0 ⟨T, H⟩ ⟨tmps 125 [(0, .str s), (2, .ptr 0 0), (3, .int .i64 0), (4, .ptr 1 0), (5, .imm (L.map sRow)), (6, .int .i64 ((i + 1 : Nat) : Int))], xH z⟩ →
        nextE (S := Nat × Rcd) 0 (fun t => ⟨tmps 125 [(0, .str s), (2, .ptr 0 0), (3, .int .i64 0), (4, .ptr 1 0), (5, .imm (L.map sRow)), (6, .int .i64 t.1)], xH t.2⟩) (fun t => L.length - t.1) (fun t => t.1 ≤ L.length ∧ t.2 = (L.take t.1).foldl stepR nil0) (i, y) T H u := by
      intro T H k u z hz hw
      exact next_of (i + 1, z) ⟨by show i + 1 ≤ _; omega, hz ▸ hstep⟩ (by show _ - (i + 1) < _ - i; omega) hw
    by_cases h2 : L[i].length < 2
    · have h2' : (L[i].length : Int) < 2 := by omega
      unfold xH xBox
      simp +decide -dsimp -implicitDefEqProofs [go_sem, h, h2', w]
      refine nx (k := 0) y (by simp [stepR, h2]) (cut_of (by simp) ?_)
      simp +decide -dsimp -implicitDefEqProofs [go_sem, xH, xBox]
    have h2' : ¬ (L[i].length : Int) < 2 := by omega
    have h2n : 2 ≤ L[i].length := by omega
    by_cases k1 : L[i].take 2 = [80, 58]
    · have hst : stepR y L[i] = { y with path := L[i].drop 2 } := by simp +decide [stepR, h2, k1]
      unfold xH xBox
      simp +decide -dsimp -implicitDefEqProofs [go_sem, h, h2', h2n, k1, w]
      refine nx (k := 0) _ hst (cut_of (by simp) ?_)
      simp +decide -dsimp -implicitDefEqProofs [go_sem, xH, xBox]
    by_cases k2 : L[i].take 2 = [73, 58]
    · have hst : stepR y L[i] = { y with index := refN 10 (L[i].drop 2) } := by simp +decide [stepR, h2, k2]
      unfold xH xBox
      simp +decide -dsimp -implicitDefEqProofs [go_sem, h, h2', h2n, k2]
      refine callE_pure (rNumber_c (L[i].drop 2) 10 (by decide) (by simp; omega)) rfl rfl ?_
      simp +decide -dsimp -implicitDefEqProofs [go_sem, w]
      refine nx (k := 0) _ hst (cut_of (by simp) ?_)
      simp +decide -dsimp -implicitDefEqProofs [go_sem, xH, xBox]
    by_cases k3 : L[i].take 2 = [69, 58]
    · have hst : stepR y L[i] = { y with props := y.props ++ [attrP (L[i].drop 2)] } := by simp +decide [stepR, h2, k3]
      unfold xH xBox
      simp +decide -dsimp -implicitDefEqProofs [go_sem, h, h2', h2n, k3]
      obtain ⟨b, eA⟩ := cutA_attr (L[i].drop 2)
      have hcut := Cut_c (L[i].drop 2) 61 (by simp; omega)
      rw [eA] at hcut
      refine callE_pure hcut rfl (by simp [go_sem]) ?_
      simp +decide -dsimp -implicitDefEqProofs [go_sem, w, maxLen]
      refine ⟨⟨by omega, by omega⟩, ?_⟩
      rw [aRow_snoc]
      refine nx (k := 0) _ hst (cut_of (by simp) ?_)
      simp +decide -dsimp -implicitDefEqProofs [go_sem, xH, xBox, aRow]
    by_cases k4 : L[i].take 2 = [71, 58]
    · have hst : stepR y L[i] = { y with tags := y.tags ++ [L[i].drop 2] } := by simp +decide [stepR, h2, k4]
      unfold xH xBox
      simp +decide -dsimp -implicitDefEqProofs [go_sem, h, h2', h2n, k4, w, maxLen]
      refine ⟨⟨by omega, by omega⟩, ?_⟩
      rw [sRow_snoc]
      refine nx (k := 0) _ hst (cut_of (by simp) ?_)
      simp +decide -dsimp -implicitDefEqProofs [go_sem, xH, xBox, sRow_closed]
    by_cases k5 : L[i].take 2 = [76, 58]
    · have hst : stepR y L[i] = { y with links := y.links ++ [L[i].drop 2] } := by simp +decide [stepR, h2, k5]
      unfold xH xBox
      simp +decide -dsimp -implicitDefEqProofs [go_sem, h, h2', h2n, k5, w, maxLen]
      refine ⟨⟨by omega, by omega⟩, ?_⟩
      rw [sRow_snoc]
      refine nx (k := 0) _ hst (cut_of (by simp) ?_)
      simp +decide -dsimp -implicitDefEqProofs [go_sem, xH, xBox, sRow_closed]
    by_cases k6 : L[i].take 2 = [82, 58]
    · have hst : stepR y L[i] = { y with run := y.run ++ [L[i].drop 2] } := by simp +decide [stepR, h2, k6]
      unfold xH xBox
      simp +decide -dsimp -implicitDefEqProofs [go_sem, h, h2', h2n, k6, w, maxLen]
      refine ⟨⟨by omega, by omega⟩, ?_⟩
      rw [sRow_snoc]
      refine nx (k := 0) _ hst (cut_of (by simp) ?_)
      simp +decide -dsimp -implicitDefEqProofs [go_sem, xH, xBox, sRow_closed]
    by_cases k7 : L[i].take 2 = [77, 58]
    · have hst : stepR y L[i] = { y with load := y.load ++ [L[i].drop 2] } := by simp +decide [stepR, h2, k7]
      unfold xH xBox
      simp +decide -dsimp -implicitDefEqProofs [go_sem, h, h2', h2n, k7, w, maxLen]
      refine ⟨⟨by omega, by omega⟩, ?_⟩
      rw [sRow_snoc]
      refine nx (k := 0) _ hst (cut_of (by simp) ?_)
      simp +decide -dsimp -implicitDefEqProofs [go_sem, xH, xBox, sRow_closed]
    by_cases k8 : L[i].take 2 = [78, 58]
    · have hst : stepR y L[i] = { y with name := L[i].drop 2 } := by simp +decide [stepR, h2, k8]
      unfold xH xBox
      simp +decide -dsimp -implicitDefEqProofs [go_sem, h, h2', h2n, k8, w]
      refine nx (k := 0) _ hst (cut_of (by simp) ?_)
      simp +decide -dsimp -implicitDefEqProofs [go_sem, xH, xBox]
    by_cases k9 : L[i].take 2 = [79, 58]
    · have hst : stepR y L[i] = { y with owner := L[i].drop 2 } := by simp +decide [stepR, h2, k9]
      unfold xH xBox
      simp +decide -dsimp -implicitDefEqProofs [go_sem, h, h2', h2n, k9, w]
      refine nx (k := 0) _ hst (cut_of (by simp) ?_)
      simp +decide -dsimp -implicitDefEqProofs [go_sem, xH, xBox]
    by_cases k10 : L[i].take 2 = [81, 58]
    · have hst : stepR y L[i] = { y with group := L[i].drop 2 } := by simp +decide [stepR, h2, k10]
      unfold xH xBox
      simp +decide -dsimp -implicitDefEqProofs [go_sem, h, h2', h2n, k10, w]
      refine nx (k := 0) _ hst (cut_of (by simp) ?_)
      simp +decide -dsimp -implicitDefEqProofs [go_sem, xH, xBox]
    by_cases k11 : L[i].take 2 = [89, 58]
    · have hst : stepR y L[i] = { y with prio := refN 10 (L[i].drop 2) } := by simp +decide [stepR, h2, k11]
      unfold xH xBox
      simp +decide -dsimp -implicitDefEqProofs [go_sem, h, h2', h2n, k11]
      refine callE_pure (rNumber_c (L[i].drop 2) 10 (by decide) (by simp; omega)) rfl rfl ?_
      simp +decide -dsimp -implicitDefEqProofs [go_sem, w]
      refine nx (k := 0) _ hst (cut_of (by simp) ?_)
      simp +decide -dsimp -implicitDefEqProofs [go_sem, xH, xBox]
    by_cases k12 : L[i].take 2 = [88, 58]
    · have hst : stepR y L[i] = { y with mode := refN 8 (L[i].drop 2) } := by simp +decide [stepR, h2, k12]
      unfold xH xBox
      simp +decide -dsimp -implicitDefEqProofs [go_sem, h, h2', h2n, k12]
      refine callE_pure (rNumber_c (L[i].drop 2) 8 (by decide) (by simp; omega)) rfl rfl ?_
      simp +decide -dsimp -implicitDefEqProofs [go_sem, w]
      refine nx (k := 0) _ hst (cut_of (by simp) ?_)
      simp +decide -dsimp -implicitDefEqProofs [go_sem, xH, xBox]
    have hst : stepR y L[i] = y := by simp only [stepR, h2, k1, k2, k3, k4, k5, k6, k7, k8, k9, k10, k11, k12, if_false]
    unfold xH xBox
    simp +decide -dsimp -implicitDefEqProofs [go_sem, h, h2', h2n, k1, k2, k3, k4, k5, k6, k7, k8, k9, k10, k11, k12, w]
    refine nx (k := 0) _ hst (cut_of (by simp) ?_)
    simp +decide -dsimp -implicitDefEqProofs [go_sem, xH, xBox]
  have hB := hbd L.length (Nat.le_refl _)
  rw [List.take_length, ← hx] at hB
  have hfew : Few x := by
    have := hB.path; have := hB.props; have := hB.tags; have := hB.links; have := hB.runs; have := hB.loads
    exact ⟨by omega, by omega, by omega, fun p hp => by have := hB.vals p hp; omega, by omega, fun p hp => by have := hB.link p hp; omega, by omega, fun p hp => by have := hB.run p hp; omega, by omega, fun p hp => by have := hB.load p hp; omega⟩
  have c1 := rSound_c x hfew
  rw [hV]
  by_cases hS : soundB x = true
  · have c2 := text_c x hS
    unfold rRow at c1 c2 ⊢
    by_cases he : encT x = s
    · rw [if_pos ⟨hS, he⟩]
      simp +decide -dsimp -implicitDefEqProofs [go_sem]
      refine callE_pure c1 (by simp [go_sem]) rfl ?_
      simp +decide -dsimp -implicitDefEqProofs [go_sem, hS]
      refine callE_pure c2 (by simp [go_sem]) rfl ?_
      simp +decide -dsimp -implicitDefEqProofs [go_sem, he]
    · rw [if_neg fun h => he h.2]
      simp +decide -dsimp -implicitDefEqProofs [go_sem]
      refine callE_pure c1 (by simp [go_sem]) rfl ?_
      simp +decide -dsimp -implicitDefEqProofs [go_sem, hS]
      refine callE_pure c2 (by simp [go_sem]) rfl ?_
      simp +decide -dsimp -implicitDefEqProofs [go_sem, he, nil0]
  · rw [if_neg fun h => hS h.1]
    unfold rRow at c1 ⊢
    simp +decide -dsimp -implicitDefEqProofs [go_sem]
    refine callE_pure c1 (by simp [go_sem]) rfl ?_
    simp +decide -dsimp -implicitDefEqProofs [go_sem, hS, nil0]
end Go.Ab
