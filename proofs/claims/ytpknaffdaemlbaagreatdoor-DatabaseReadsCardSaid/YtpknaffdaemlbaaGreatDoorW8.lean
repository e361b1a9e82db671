/- The program: Decode. -/
import Derived.Test.YtpknaffdaemlbaaGreatDoorW7
import Derived.Test.YtpknaffdaemlbaaGreatDoorW4
namespace Go.Ab
open Go Go.Proofs
theorem listP_facts (b : UInt8) {s : List UInt8} : ∀ {r : List UInt8}, r <:+ s → (listP b r).2 <:+ s ∧ (listP b r).1.length + (listP b r).2.length ≤ r.length ∧ ∀ x ∈ (listP b r).1, x.length ≤ r.length := by
  intro r
  generalize hn : r.length = n
  induction n using Nat.strongRecOn generalizing r with
  | _ n ih =>
    intro h
    subst hn
    cases hp : lineP b r with
    | none =>
      rw [listP_none hp]
      exact ⟨h, by simp, by simp⟩
    | some p =>
      have h1 := lineP_suf hp h
      obtain ⟨g1, g2, g3⟩ := ih p.2.length (by omega) rfl h1.1
      rw [listP_some hp]
      refine ⟨g1, by simp; omega, fun x hx => ?_⟩
      rcases List.mem_cons.1 hx with rfl | hx
      · omega
      · have := g3 x hx; omega
theorem line1_len (b : UInt8) {r s : List UInt8} (h : r <:+ s) : (line1 b r).1.length ≤ s.length := by
  have := suf_le h
  unfold line1; split
  · rename_i p hp; have := (lineP_suf hp h).2; omega
  · simp
theorem attrP_len (t : List UInt8) : (attrP t).1.length ≤ t.length ∧ (attrP t).2.length ≤ t.length := by
  unfold attrP
  split
  · rename_i p hp
    obtain ⟨h1, _⟩ := cutL_some (a := p.1) (b := p.2) hp
    rw [h1]; simp; omega
  · simp

set_option maxRecDepth 20000 in
set_option maxHeartbeats 2000000 in
theorem Decode_c (s : List UInt8) (hl : s.length < 50000000) : ACalls Tryz.prog 84 [.str s] [] (decV s) [] := by
  have hl' : s.length < 4294967281 := by omega
  -- the reading
  obtain ⟨r1, hr1⟩ : ∃ x, x = (line1 80 s).2 := ⟨_, rfl⟩
  obtain ⟨vp, hvp⟩ : ∃ x, x = (line1 80 s).1 := ⟨_, rfl⟩
  have s1 : r1 <:+ s := hr1 ▸ line1_suf (List.suffix_refl s)
  have cP := line_c s s 80 (List.suffix_refl s) hl'
  rw [← hr1, ← hvp] at cP
  have cI := rnumber_c s r1 73 10 (.inr rfl) s1 hl'
  obtain ⟨r2, hr2⟩ : ∃ x, x = (line1 73 r1).2 := ⟨_, rfl⟩
  have s2 : r2 <:+ s := hr2 ▸ line1_suf s1
  have cE := list_c s r2 69 s2 hl'
  have fE := listP_facts 69 s2
  obtain ⟨vE, hvE⟩ : ∃ x, x = (listP 69 r2).1 := ⟨_, rfl⟩
  obtain ⟨r3, hr3⟩ : ∃ x, x = (listP 69 r2).2 := ⟨_, rfl⟩
  rw [← hvE, ← hr3] at cE fE
  have s3 : r3 <:+ s := fE.1
  have cG := list_c s r3 71 s3 hl'
  have fG := listP_facts 71 s3
  obtain ⟨vG, hvG⟩ : ∃ x, x = (listP 71 r3).1 := ⟨_, rfl⟩
  obtain ⟨r4, hr4⟩ : ∃ x, x = (listP 71 r3).2 := ⟨_, rfl⟩
  rw [← hvG, ← hr4] at cG fG
  have s4 : r4 <:+ s := fG.1
  have cL := list_c s r4 76 s4 hl'
  have fL := listP_facts 76 s4
  obtain ⟨vL, hvL⟩ : ∃ x, x = (listP 76 r4).1 := ⟨_, rfl⟩
  obtain ⟨r5, hr5⟩ : ∃ x, x = (listP 76 r4).2 := ⟨_, rfl⟩
  rw [← hvL, ← hr5] at cL fL
  have s5 : r5 <:+ s := fL.1
  have cR := list_c s r5 82 s5 hl'
  have fR := listP_facts 82 s5
  obtain ⟨vR, hvR⟩ : ∃ x, x = (listP 82 r5).1 := ⟨_, rfl⟩
  obtain ⟨r6, hr6⟩ : ∃ x, x = (listP 82 r5).2 := ⟨_, rfl⟩
  rw [← hvR, ← hr6] at cR fR
  have s6 : r6 <:+ s := fR.1
  have cM := list_c s r6 77 s6 hl'
  have fM := listP_facts 77 s6
  obtain ⟨vM, hvM⟩ : ∃ x, x = (listP 77 r6).1 := ⟨_, rfl⟩
  obtain ⟨r7, hr7⟩ : ∃ x, x = (listP 77 r6).2 := ⟨_, rfl⟩
  rw [← hvM, ← hr7] at cM fM
  have s7 : r7 <:+ s := fM.1
  have cN := line_c s r7 78 s7 hl'
  have gN := line1_len 78 s7
  obtain ⟨vN, hvN⟩ : ∃ x, x = (line1 78 r7).1 := ⟨_, rfl⟩
  obtain ⟨r8, hr8⟩ : ∃ x, x = (line1 78 r7).2 := ⟨_, rfl⟩
  rw [← hvN, ← hr8] at cN
  rw [← hvN] at gN
  have s8 : r8 <:+ s := hr8 ▸ line1_suf s7
  have cO := line_c s r8 79 s8 hl'
  have gO := line1_len 79 s8
  obtain ⟨vO, hvO⟩ : ∃ x, x = (line1 79 r8).1 := ⟨_, rfl⟩
  obtain ⟨r9, hr9⟩ : ∃ x, x = (line1 79 r8).2 := ⟨_, rfl⟩
  rw [← hvO, ← hr9] at cO
  rw [← hvO] at gO
  have s9 : r9 <:+ s := hr9 ▸ line1_suf s8
  have cQ := line_c s r9 81 s9 hl'
  have gQ := line1_len 81 s9
  obtain ⟨vQ, hvQ⟩ : ∃ x, x = (line1 81 r9).1 := ⟨_, rfl⟩
  obtain ⟨r10, hr10⟩ : ∃ x, x = (line1 81 r9).2 := ⟨_, rfl⟩
  rw [← hvQ, ← hr10] at cQ
  rw [← hvQ] at gQ
  have s10 : r10 <:+ s := hr10 ▸ line1_suf s9
  have cY := rnumber_c s r10 89 10 (.inr rfl) s10 hl'
  obtain ⟨r11, hr11⟩ : ∃ x, x = (line1 89 r10).2 := ⟨_, rfl⟩
  have s11 : r11 <:+ s := hr11 ▸ line1_suf s10
  have cX := rnumber_c s r11 88 8 (.inl rfl) s11 hl'
  obtain ⟨r12, hr12⟩ : ∃ x, x = (line1 88 r11).2 := ⟨_, rfl⟩
  have gP := line1_len 80 (List.suffix_refl s)
  rw [← hvp] at gP
  obtain ⟨wE, hwE⟩ : ∃ w, w = vE.map attrP := ⟨_, rfl⟩
  have hwl : wE.length = vE.length := by rw [hwE, List.length_map]
  refine acalls_A c84_ok rfl ?_
  unfold c84
  refine awp_cut ⟨tmps 85 [(0, .str s), (2, .ptr 0 0), (3, .int .i64 0)], [.box 34 [.str [], .int .i64 0, .nils, .nils, .nils, .nils, .nils, .str [], .int .i64 0, .str [], .str [], .int .i64 0]]⟩ (awp_of ?_) (awp_cut ⟨tmps 85 [(0, .str s), (2, .ptr 0 0), (3, .int .i64 0), (4, .ptr 1 0)], [.box 34 [.str [], .int .i64 0, .nils, .nils, .nils, .nils, .nils, .str [], .int .i64 0, .str [], .str [], .int .i64 0], rdR s s]⟩ (awp_of ?_)
    (awp_cut ⟨tmps 85 [(0, .str s), (2, .ptr 0 0), (3, .int .i64 0), (4, .ptr 1 0), (5, .ptr 2 0)], [.box 34 [.str [], .int .i64 0, .nils, .nils, .nils, .nils, .nils, .str [], .int .i64 0, .str [], .str [], .int .i64 0], rdR s s, .box 34 [.str [], .int .i64 0, .nils, .nils, .nils, .nils, .nils, .str [], .int .i64 0, .str [], .str [], .int .i64 0]]⟩ (awp_of ?_) (awp_cut ⟨tmps 85 [(0, .str s), (2, .ptr 0 0), (3, .int .i64 0), (4, .ptr 1 0), (5, .ptr 2 0)], [.box 34 [.str [], .int .i64 0, .nils, .nils, .nils, .nils, .nils, .str [], .int .i64 0, .str [], .str [], .int .i64 0], rdR s r1, .box 34 [.str vp, .int .i64 0, .nils, .nils, .nils, .nils, .nils, .str [], .int .i64 0, .str [], .str [], .int .i64 0]]⟩ (awp_of ?_) (awp_cutX (fun ni : Int => ⟨tmps 85 [(0, .str s), (2, .ptr 0 0), (3, .int .i64 0), (4, .ptr 1 0), (5, .ptr 2 0)], [.box 34 [.str [], .int .i64 0, .nils, .nils, .nils, .nils, .nils, .str [], .int .i64 0, .str [], .str [], .int .i64 0], rdR s r2, .box 34 [.str vp, .int .i64 ni, .nils, .nils, .nils, .nils, .nils, .str [], .int .i64 0, .str [], .str [], .int .i64 0]]⟩) (fun ni => ∀ m : Int, m.natAbs < 10 ^ 10 → (line1 73 r1).1 = baseT 10 m → ni = m) (awp_of ?_) (fun ni ni1 => awp_cut ⟨tmps 85 [(0, .str s), (2, .ptr 0 0), (3, .int .i64 0), (4, .ptr 1 0), (5, .ptr 2 0)], [.box 34 [.str [], .int .i64 0, .nils, .nils, .nils, .nils, .nils, .str [], .int .i64 0, .str [], .str [], .int .i64 0], rdR s r3, .box 34 [.str vp, .int .i64 ni, .imm (wE.map aRow), .nils, .nils, .nils, .nils, .str [], .int .i64 0, .str [], .str [], .int .i64 0]]⟩ (awp_of ?_) (awp_of ?_))))))
  · simp +decide -dsimp -implicitDefEqProofs [go_sem]
    refine cutE_of (by simp) ?_
    simp +decide -dsimp -implicitDefEqProofs [go_sem]
  · simp +decide -dsimp -implicitDefEqProofs [go_sem]
    refine cutE_of (by simp) ?_
    simp +decide -dsimp -implicitDefEqProofs [go_sem, rdR, rdO]
  · simp +decide -dsimp -implicitDefEqProofs [go_sem]
    refine cutE_of (by simp) ?_
    simp +decide -dsimp -implicitDefEqProofs [go_sem, rdR, rdO]
  · simp +decide -dsimp -implicitDefEqProofs [go_sem]
    refine callE_frame [1] cP rfl rfl (by simp) (by simp +decide -dsimp -implicitDefEqProofs [go_sem]) (by simp +decide -dsimp -implicitDefEqProofs [go_sem, rdR_ren]) ?_
    simp +decide -dsimp -implicitDefEqProofs [go_sem, rdR_ren]
    refine cutE_of (by simp) ?_
    simp +decide -dsimp -implicitDefEqProofs [go_sem, rdR, rdO]
  · simp +decide -dsimp -implicitDefEqProofs [go_sem]
    refine callE_frameR [1] cI rfl (fun v G ⟨n, _, _, _, h⟩ => by subst h; rfl) (by simp) (by simp +decide -dsimp -implicitDefEqProofs [go_sem]) (by simp +decide -dsimp -implicitDefEqProofs [go_sem, rdR_ren]) ?_
    rintro _ _ ⟨ni, rfl, ni1, _, rfl⟩
    rw [← hr2]
    simp +decide -dsimp -implicitDefEqProofs [go_sem, rdR_ren]
    refine cutX_of ni ni1 (cut_of (by simp) ?_)
    simp +decide -dsimp -implicitDefEqProofs [go_sem, rdR, rdO]
  · -- the attributes
    have fE2 := fE.2.1
    have l2 := suf_le s2
    simp +decide -dsimp -implicitDefEqProofs [go_sem]
    refine callE_frame [1] cE rfl rfl (by simp) (by simp +decide -dsimp -implicitDefEqProofs [go_sem]) (by simp +decide -dsimp -implicitDefEqProofs [go_sem, rdR_ren]) ?_
    simp +decide -dsimp -implicitDefEqProofs [go_sem, rdR_ren, renLL_sRows]
    refine loop_of (S := Nat) (fun i => ⟨tmps 85 [(0, .str s), (2, .ptr 0 0), (3, .int .i64 0), (4, .ptr 1 0), (5, .ptr 2 0), (23, .imm (vE.map sRow)), (24, .int .i64 vE.length), (25, .int .i64 i)], [.box 34 [.str [], .int .i64 0, .nils, .nils, .nils, .nils, .nils, .str [], .int .i64 0, .str [], .str [], .int .i64 0], rdR s r3, .box 34 [.str vp, .int .i64 ni, .own 3 i, .nils, .nils, .nils, .nils, .str [], .int .i64 0, .str [], .str [], .int .i64 0], .reg 93 2 ((wE.take i).map aRow)]⟩) (fun i => vE.length - i)
      (fun i => i ≤ vE.length) 0 (by simp) ((Wk.nilB 2 2 93 2 rfl rfl (by simp)).trans (cut_of (by simp) ?_)) ?_
    · simp +decide -dsimp -implicitDefEqProofs [go_sem, rdR, rdO]
    intro i hi
    by_cases h : i < vE.length
    · have w : IntKind.i64.wrap ((i : Int) + 1) = i + 1 := w64 (by omega) (by omega)
      have hvl := fE.2.2 _ (List.getElem_mem h)
      have hcut := Cut_c vE[i] 61 (by omega)
      have hcl : closed 0 (cutA 61 vE[i]) = true := by unfold cutA; split <;> simp [go_sem]
      have eA : ∃ b, cutA 61 vE[i] = .tup [.str (attrP vE[i]).1, .str (attrP vE[i]).2, .bool b] := by
        cases hq : cutL 61 vE[i] <;> simp [cutA, attrP, hq]
      obtain ⟨b, eA⟩ := eA
      have hiw : i < wE.length := by omega
      have ew : wE[i] = attrP vE[i] := by simp [hwE]
      have hmin : min i wE.length = i := by omega
      have eR : List.take i (List.map aRow wE) ++ [[AV.str (attrP vE[i]).1, AV.str (attrP vE[i]).2]] = List.map aRow (wE.take (i + 1)) := by
        rw [List.take_succ_eq_append_getElem hiw, List.map_append, ew, List.map_take]; rfl
      simp +decide -dsimp -implicitDefEqProofs [go_sem, h]
      refine callE_pure hcut rfl hcl ?_
      rw [eA]
      simp +decide -dsimp -implicitDefEqProofs [go_sem, hmin, maxLen, w, -List.map_take]
      refine ⟨⟨by omega, by omega⟩, ?_⟩
      rw [eR]
      refine next_of (i + 1) (by omega) (by omega) (cut_of (by simp) ?_)
      simp +decide -dsimp -implicitDefEqProofs [go_sem, rdR, rdO, -List.map_take]
    · have e : i = vE.length := by omega
      subst e
      have hmin : wE.take vE.length = wE := by rw [← hwl, List.take_length]
      rw [hmin]
      simp +decide -dsimp -implicitDefEqProofs [go_sem]
      refine cutE_of (by simp) ?_
      simp +decide -dsimp -implicitDefEqProofs [go_sem, rdR, rdO, hwl]
  simp +decide -dsimp -implicitDefEqProofs [go_sem]
  refine callE_frame [1] cG rfl rfl (by simp) (by simp +decide -dsimp -implicitDefEqProofs [go_sem]) (by simp +decide -dsimp -implicitDefEqProofs [go_sem, rdR_ren]) ?_
  simp +decide -dsimp -implicitDefEqProofs [go_sem, rdR_ren]
  refine callE_frame [1] cL rfl rfl (by simp) (by simp +decide -dsimp -implicitDefEqProofs [go_sem]) (by simp +decide -dsimp -implicitDefEqProofs [go_sem, rdR_ren]) ?_
  simp +decide -dsimp -implicitDefEqProofs [go_sem, rdR_ren]
  refine callE_frame [1] cR rfl rfl (by simp) (by simp +decide -dsimp -implicitDefEqProofs [go_sem]) (by simp +decide -dsimp -implicitDefEqProofs [go_sem, rdR_ren]) ?_
  simp +decide -dsimp -implicitDefEqProofs [go_sem, rdR_ren]
  refine callE_frame [1] cM rfl rfl (by simp) (by simp +decide -dsimp -implicitDefEqProofs [go_sem]) (by simp +decide -dsimp -implicitDefEqProofs [go_sem, rdR_ren]) ?_
  simp +decide -dsimp -implicitDefEqProofs [go_sem, rdR_ren]
  refine callE_frame [1] cN rfl rfl (by simp) (by simp +decide -dsimp -implicitDefEqProofs [go_sem]) (by simp +decide -dsimp -implicitDefEqProofs [go_sem, rdR_ren]) ?_
  simp +decide -dsimp -implicitDefEqProofs [go_sem, rdR_ren]
  refine callE_frame [1] cO rfl rfl (by simp) (by simp +decide -dsimp -implicitDefEqProofs [go_sem]) (by simp +decide -dsimp -implicitDefEqProofs [go_sem, rdR_ren]) ?_
  simp +decide -dsimp -implicitDefEqProofs [go_sem, rdR_ren]
  refine callE_frame [1] cQ rfl rfl (by simp) (by simp +decide -dsimp -implicitDefEqProofs [go_sem]) (by simp +decide -dsimp -implicitDefEqProofs [go_sem, rdR_ren]) ?_
  simp +decide -dsimp -implicitDefEqProofs [go_sem, rdR_ren]
  refine callE_frameR [1] cY rfl (fun v G ⟨n, _, _, _, h⟩ => by subst h; rfl) (by simp) (by simp +decide -dsimp -implicitDefEqProofs [go_sem]) (by simp +decide -dsimp -implicitDefEqProofs [go_sem, rdR_ren]) ?_
  rintro _ _ ⟨ny, rfl, ny1, ny0, rfl⟩
  rw [← hr11]
  simp +decide -dsimp -implicitDefEqProofs [go_sem, rdR_ren]
  refine callE_frameR [1] cX rfl (fun v G ⟨n, _, _, _, h⟩ => by subst h; rfl) (by simp) (by simp +decide -dsimp -implicitDefEqProofs [go_sem]) (by simp +decide -dsimp -implicitDefEqProofs [go_sem, rdR_ren]) ?_
  rintro _ _ ⟨nx, rfl, nx1, nx0, rfl⟩
  rw [← hr12]
  simp +decide -dsimp -implicitDefEqProofs [go_sem, rdR_ren]
  obtain ⟨x, hx⟩ : ∃ x : Rcd, x = ⟨vp, ni, wE, vG, vL, vR, vM, vN, ny, vO, vQ, nx⟩ := ⟨_, rfl⟩
  -- what was encoded is read
  have hback : ∀ r, soundB r = true → encT r = s → x = r := by
    intro r hS he
    have hn := nice_of hS
    have R := reads hn
    have Rp := R.p
    rw [he] at Rp
    have e1 : vp = r.path := by rw [hvp, Rp]
    have e2 : r1 = tl1 r := by rw [hr1, Rp]
    subst e2
    have e3 : r2 = tl2 r := by rw [hr2, R.i]
    have e4 : ni = r.index := ni1 _ (by have := hn.index; omega) (by rw [R.i])
    subst e3
    have e5 : vE = r.props.map attrT := by rw [hvE, R.e]
    have e6 : r3 = tl3 r := by rw [hr3, R.e]
    subst e6
    have e7 : vG = r.tags := by rw [hvG, R.g]
    have e8 : r4 = tl4 r := by rw [hr4, R.g]
    subst e8
    have e9 : vL = r.links := by rw [hvL, R.l]
    have e10 : r5 = tl5 r := by rw [hr5, R.l]
    subst e10
    have e11 : vR = r.run := by rw [hvR, R.rn]
    have e12 : r6 = tl6 r := by rw [hr6, R.rn]
    subst e12
    have e13 : vM = r.load := by rw [hvM, R.m]
    have e14 : r7 = tl7 r := by rw [hr7, R.m]
    subst e14
    have e15 : vN = r.name := by rw [hvN, R.n]
    have e16 : r8 = tl8 r := by rw [hr8, R.n]
    subst e16
    have e17 : vO = r.owner := by rw [hvO, R.o]
    have e18 : r9 = tl9 r := by rw [hr9, R.o]
    subst e18
    have e19 : vQ = r.group := by rw [hvQ, R.q]
    have e20 : r10 = tl10 r := by rw [hr10, R.q]
    subst e20
    have e21 : r11 = tl11 r := by rw [hr11, R.y]
    have e22 : ny = r.prio := by
      by_cases h0 : r.prio = 0
      · rw [h0]; exact ny0 (by rw [R.y, (numT_nil (by decide) (by decide)).2 h0])
      · exact ny1 _ (by have := hn.prio; omega) (by rw [R.y]; simp [numT, h0])
    subst e21
    have e23 : nx = r.mode := by
      by_cases h0 : r.mode = 0
      · rw [h0]; exact nx0 (by rw [R.x, (numT_nil (by decide) (by decide)).2 h0])
      · exact nx1 _ (by have := hn.mode; rw [p10_8]; omega) (by rw [R.x]; simp [numT, h0])
    rw [hx, hwE, e1, e4, e5, e7, e9, e11, e13, e15, e17, e19, e22, e23, attrsP hn]
  have hfew : Few x := by
    have l2 := suf_le s2; have l3 := suf_le s3; have l4 := suf_le s4; have l5 := suf_le s5; have l6 := suf_le s6
    subst hx
    refine ⟨?_, ?_, ?_, ?_, ?_, ?_, ?_, ?_, ?_, ?_⟩ <;> simp only
    · omega
    · have := fG.2.1; omega
    · have := fE.2.1; omega
    · intro p hp
      rw [hwE] at hp
      obtain ⟨t, ht, rfl⟩ := List.mem_map.1 hp
      have := fE.2.2 t ht
      have := (attrP_len t).2
      omega
    · have := fL.2.1; omega
    · intro y hy; have := fL.2.2 y hy; omega
    · have := fR.2.1; omega
    · intro y hy; have := fR.2.2 y hy; omega
    · have := fM.2.1; omega
    · intro y hy; have := fM.2.2 y hy; omega
  have cEnc := Encode_c x hfew
  have hV : decV s = if soundB x = true ∧ encT x = s then .tup [.agg (rRow x), .int .i64 0] else .tup [.agg (rRow nil0), .int .i64 251] := by
    unfold decV
    by_cases hd : decS s
    · have hc := hd.choose_spec
      have hxc := hback _ hc.1 hc.2
      rw [dif_pos hd, if_pos ⟨hxc ▸ hc.1, hxc ▸ hc.2⟩, hxc]
    · rw [dif_neg hd, if_neg fun h => hd ⟨x, h⟩]
  have hrow : AV.agg [.str vp, .int .i64 ni, .imm (wE.map aRow), .imm (vG.map sRow), .imm (vL.map sRow), .imm (vR.map sRow), .imm (vM.map sRow), .str vN, .int .i64 ny, .str vO, .str vQ, .int .i64 nx] = .agg (rRow x) := by rw [hx]; rfl
  rw [← hrow] at cEnc
  refine callE_pure cEnc (by simp [go_sem]) rfl ?_
  rw [hV]
  by_cases hS : soundB x = true
  · have e1 : encS x = encT x := by simp [encS, hS]
    have e2 : chkB x = 0 := by simp [chkB, hS]
    rw [e1, e2]
    by_cases he : encT x = s
    · rw [if_pos ⟨hS, he⟩, ← hrow]
      simp +decide -dsimp -implicitDefEqProofs [go_sem, he]
    · rw [if_neg fun h => he h.2]
      simp +decide -dsimp -implicitDefEqProofs [go_sem, he, rRow, nil0]
  · have e2 : chkB x = 250 := by simp [chkB, hS]
    rw [e2, if_neg fun h => hS h.1]
    simp +decide -dsimp -implicitDefEqProofs [go_sem, rRow, nil0]
end Go.Ab
namespace Go.Ab
open Go Go.Proofs
theorem decV_of {r : Rcd} (h : soundB r = true) : decV (encT r) = .tup [.agg (rRow r), .int .i64 0] := by
  have hd : decS (encT r) := ⟨r, h, rfl⟩
  have := enc_inj hd.choose_spec.1 h hd.choose_spec.2
  rw [decV, dif_pos hd, this]
theorem nil0_few : Few nil0 := ⟨by simp [nil0], by simp [nil0], by simp [nil0], by simp [nil0], by simp [nil0], by simp [nil0], by simp [nil0], by simp [nil0], by simp [nil0], by simp [nil0]⟩
theorem decV_no {s : List UInt8} (h : ¬ decS s) : decV s = .tup [.agg (rRow nil0), .int .i64 251] := by rw [decV, dif_neg h]
theorem decV_form (s : List UInt8) : (∃ x, soundB x = true ∧ encT x = s ∧ decV s = .tup [.agg (rRow x), .int .i64 0]) ∨ (¬ decS s ∧ decV s = .tup [.agg (rRow nil0), .int .i64 251]) := by
  by_cases hd : decS s
  · obtain ⟨x, hx, rfl⟩ := hd
    exact .inl ⟨x, hx, rfl, decV_of hx⟩
  · exact .inr ⟨hd, decV_no hd⟩
end Go.Ab
