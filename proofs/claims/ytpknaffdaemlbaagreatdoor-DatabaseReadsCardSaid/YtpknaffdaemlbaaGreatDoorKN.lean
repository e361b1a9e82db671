/- The example of the chapter. -/
import Derived.Test.YtpknaffdaemlbaaGreatDoorDB
import Derived.Test.YtpknaffdaemlbaaGreatDoorW9
import Derived.Test.YtpknaffdaemlbaaGreatDoorC22
namespace Go.Ab
open Go Go.Proofs
@[go_sem] theorem rg1 (a : Nat) : List.range' a 1 = [a] := rfl
@[go_sem] theorem rg2 (a : Nat) : List.range' a 2 = [a, a + 1] := rfl
@[go_sem] theorem rg4 (a : Nat) : List.range' a 4 = [a, a + 1, a + 2, a + 3] := rfl
/-! ### A nil slice where an empty one is wanted -/
mutual
def nle : AV → AV → Prop
  | .nils, .imm l => l = []
  | .agg a, .agg b => nleL a b
  | x, y => x = y
def nleL : List AV → List AV → Prop
  | [], [] => True
  | x :: xs, y :: ys => nle x y ∧ nleL xs ys
  | _, _ => False
end
mutual
theorem nle_val {c : Cx} : ∀ {x y : AV} {v : Value}, nle x y → Val c x v → Val c y v := fun {x y v} h hv => by
  unfold nle at h
  split at h
  · subst h
    simp only [Val] at hv ⊢
    exact .inr ⟨trivial, none, 0, hv⟩
  · simp only [Val] at hv ⊢
    obtain ⟨vs, h1, h2, h3⟩ := hv
    exact ⟨vs, h1, nleL_vals h h2, h3⟩
  · subst h; exact hv
theorem nleL_vals {c : Cx} : ∀ {xs ys : List AV} {vs : List Value}, nleL xs ys → Vals c xs vs → Vals c ys vs
  | [], [], _, _, hv => hv
  | x :: xs, y :: ys, vs, h, hv => by
    simp only [nleL] at h
    simp only [Vals] at hv ⊢
    obtain ⟨v, vs', h1, h2, h3⟩ := hv
    exact ⟨v, vs', h1, nle_val h.1 h2, nleL_vals h.2 h3⟩
  | [], _ :: _, _, h, _ => h.elim
  | _ :: _, [], _, h, _ => h.elim
end
theorem callE_nle {P : Program} {f : Nat} {xs : List AV} (ys : List AV) {H : List AObj} {K : List AObj → AV → Prop} {u : TagOf K} (h : nleL xs ys) (hc : callE P f ys H K u) : callE P f xs H K u :=
  ⟨hc.1, fun c vs hH hr hv => hc.2 c vs hH hr (nleL_vals h hv)⟩

theorem pending_c (dur seen : TMap) (pend : List Wr) : ACalls Tryz.prog 32 [.ptr 0 0] (dbO dur seen pend) (.int .i64 pend.length) (dbO dur seen pend) := by
  have hcl := wRows_cl
  have hsc : ∀ (m : TMap) (k : Nat) (a b : AV), (a, b) ∈ smK .str m → closed k a = true ∧ closed k b = true := fun m k => smK_clm (k := k) fun _ => rfl
  refine acalls_F c32_ok rfl ?_
  unfold c32 dbO dbB mO
  simp +decide -dsimp -implicitDefEqProofs [go_sem, hcl]
  exact ⟨hsc _ _, hsc _ _⟩

def rX (p : List UInt8) (i : Int) : Rcd := ⟨p, i, [], [], [], [], [], [], 0, [], [], 0⟩
theorem rX_sound {p : List UInt8} {i : Int} (hp : placeB p = true) (hi : 1 ≤ i ∧ i ≤ 1073741824) : soundB (rX p i) = true := by
  simp [soundB, rX, hp, hi, risAB, risB, ascB]
theorem place_a : placeB [47, 97] = true := join_place (l := [[97]]) (by decide) (by simp) (by simp)
theorem place_b : placeB [47, 98] = true := join_place (l := [[98]]) (by decide) (by simp) (by simp)
theorem enc_ne (x : Rcd) : encT x ≠ [] := by intro h; simp [encT, lineT] at h
theorem ent_ab : ¬ entL [47, 97] = entL [47, 98] := fun h => by have := ent_inj h; revert this; decide
set_option maxRecDepth 20000 in
set_option maxHeartbeats 4000000 in
theorem known_c : ACalls Tryz.prog 22 [] [] (.bool true) [] := by
  have s1 := rX_sound (i := 1) place_a (by decide)
  have s2 := rX_sound (i := 2) place_a (by decide)
  have s3 := rX_sound (i := 3) place_b (by decide)
  have h1 := Put_c [] [] [] _ s1 (by simp) (by simp [cntS])
  have n0 := enc_ne
  have hab := ent_ab
  have hl2 := enc_small s2
  have hu2 : ∀ y, soundB y = true → encT y = encT (rX [47, 97] 2) → y = rX [47, 97] 2 := fun y hy he => enc_inj hy s2 he
  have e1 : (rX [47, 97] 1).path = [47, 97] := rfl
  have e2 : (rX [47, 97] 2).path = [47, 97] := rfl
  have e3 : (rX [47, 98] 3).path = [47, 98] := rfl
  rw [e1] at h1
  have h4 := sync_c [] (setS (entL [47, 97]) (encT (rX [47, 97] 1)) []) ([] ++ [(entL [47, 97], some (encT (rX [47, 97] 1)))])
  obtain ⟨m1, hm1⟩ : ∃ m, m = setS (entL [47, 97]) (encT (rX [47, 97] 1)) ([] : TMap) := ⟨_, rfl⟩
  rw [← hm1] at h1 h4
  have h2 := Put_c m1 m1 [] _ s2 (by simp) (by rw [hm1]; simp [setS, cntS])
  rw [e2] at h2
  obtain ⟨m2, hm2⟩ : ∃ m, m = setS (entL [47, 97]) (encT (rX [47, 97] 2)) m1 := ⟨_, rfl⟩
  rw [← hm2] at h2
  have h3 := Put_c m1 m2 ([] ++ [(entL [47, 97], some (encT (rX [47, 97] 2)))]) _ s3 (by simp) (by rw [hm2, hm1]; simp [setS, cntS])
  rw [e3] at h3
  obtain ⟨m3, hm3⟩ : ∃ m, m = setS (entL [47, 98]) (encT (rX [47, 98] 3)) m2 := ⟨_, rfl⟩
  rw [← hm3] at h3
  obtain ⟨w1, hw1⟩ : ∃ w : Wr, w = (entL [47, 97], some (encT (rX [47, 97] 1))) := ⟨_, rfl⟩
  obtain ⟨w2, hw2⟩ : ∃ w : Wr, w = (entL [47, 97], some (encT (rX [47, 97] 2))) := ⟨_, rfl⟩
  obtain ⟨w3, hw3⟩ : ∃ w : Wr, w = (entL [47, 98], some (encT (rX [47, 98] 3))) := ⟨_, rfl⟩
  rw [← hw1] at h1 h4
  rw [← hw2] at h2 h3
  rw [← hw3] at h3
  have h5 := pending_c m1 m3 ([] ++ [w2] ++ [w3])
  have h6 := crash_c m1 m3 ([] ++ [w2] ++ [w3]) 1 (by simp)
  have ek : keepN 1 ([] ++ [w2] ++ [w3]).length = 1 := by simp [keepN]
  have ef : foldW m1 (([] ++ [w2] ++ [w3]).take 1) = m2 := by rw [hm2, hw2]; rfl
  rw [ek, ef] at h6
  have ga : getS (entL [47, 97]) m2 = some (encT (rX [47, 97] 2)) := by rw [hm2, get_set, if_pos rfl]
  have gb : getS (entL [47, 98]) m2 = none := by rw [hm2, get_set, if_neg hab, hm1, get_set, if_neg hab]; rfl
  obtain ⟨ra, ba, hra, h7⟩ := Get_c m2 m2 [] [47, 97] place_a (by simp) (by rw [ga]; simp only [Option.getD_some]; omega)
  obtain ⟨rb, bb, hrb, h8⟩ := Get_c m2 m2 [] [47, 98] place_b (by simp) (by rw [gb]; simp)
  have era : ra = rX [47, 97] 2 ∧ ba = true := by
    rcases hra with ⟨x, hx, hxe, _, rfl, rfl⟩ | ⟨hno, _⟩
    · rw [ga] at hxe; exact ⟨hu2 _ hx hxe, rfl⟩
    · exact (hno _ s2 (by rw [ga]; rfl) rfl).elim
  have erb : rb = nil0 ∧ bb = false := by
    rcases hrb with ⟨x, _, hxe, _⟩ | ⟨_, h, h'⟩
    · rw [gb] at hxe; exact (n0 x hxe).elim
    · exact ⟨h, h'⟩
  obtain ⟨rfl, rfl⟩ := era
  obtain ⟨rfl, rfl⟩ := erb
  clear hm1 hm2 hm3 hra hrb
  have row1 : ∀ p i, rRow (rX p i) = [.str p, .int .i64 i, .imm [], .imm [], .imm [], .imm [], .imm [], .str [], .int .i64 0, .str [], .str [], .int .i64 0] := fun p i => by simp [rRow, rX]
  simp only [dbO, dbB, mO, List.nil_append, List.cons_append, recV] at h1 h2 h3 h4 h5 h6 h7 h8
  rw [row1] at h1 h2 h3 h7
  rw [nil0_row] at h8
  have hsr := smK_renS
  have hwr := wRows_ren
  have hw1r : ∀ (w : Wr) (is : List Nat), renLL is [wRow w] = [wRow w] := fun w is => wRows_ren is [w]
  have hwL : ∀ (w : Wr) (is : List Nat), renL is (wRow w) = wRow w := fun w is => by simp [wRow, renL, wAV_ren]
  have hwc : ∀ (w : Wr) (r : List (List AV)) (is : List Nat), renLL is (wRow w :: r) = wRow w :: renLL is r := fun w r is => by rw [renLL, hwL]
  have hwn : ∀ (is : List Nat), renLL is [] = [] := fun _ => rfl
  refine acalls_F c22_ok rfl ?_
  unfold c22
  simp +decide -dsimp -implicitDefEqProofs [go_sem]
  refine callE_grow [] 4 new_c rfl (fun v G h => by rw [h.2]; rfl) (by simp +decide) rfl (by simp) ?_
  rintro _ _ ⟨rfl, rfl⟩
  simp +decide -dsimp -implicitDefEqProofs [go_sem, dbO, dbB, mO, hsr, hwn]
  refine callE_nle [.ptr 0 0, .agg [.str [47, 97], .int .i64 1, .imm [], .imm [], .imm [], .imm [], .imm [], .str [], .int .i64 0, .str [], .str [], .int .i64 0]] (by simp [nleL, nle]) (callE_frame [0, 1, 2, 3] h1 rfl rfl (by simp) (by simp +decide -dsimp -implicitDefEqProofs [go_sem]) (by simp +decide -dsimp -implicitDefEqProofs [go_sem, hsr, hwn]) ?_)
  simp +decide -dsimp -implicitDefEqProofs [go_sem, hsr, hwc, hwn]
  refine callE_grow [0, 1, 2, 3] 2 h4 rfl (fun v G h => by rw [h.2]; rfl) (by simp +decide) (by simp +decide -dsimp -implicitDefEqProofs [go_sem]) (by simp +decide -dsimp -implicitDefEqProofs [go_sem, hsr, hwc, hwn]) ?_
  rintro _ _ ⟨rfl, rfl⟩
  simp +decide -dsimp -implicitDefEqProofs [go_sem, hsr, hwc, hwn]
  refine callE_nle [.ptr 0 0, .agg [.str [47, 97], .int .i64 2, .imm [], .imm [], .imm [], .imm [], .imm [], .str [], .int .i64 0, .str [], .str [], .int .i64 0]] (by simp [nleL, nle]) (callE_frame [0, 4, 2, 5] h2 rfl rfl (by simp) (by simp +decide -dsimp -implicitDefEqProofs [go_sem]) (by simp +decide -dsimp -implicitDefEqProofs [go_sem, hsr, hwn]) ?_)
  simp +decide -dsimp -implicitDefEqProofs [go_sem, hsr, hwc, hwn]
  refine callE_nle [.ptr 0 0, .agg [.str [47, 98], .int .i64 3, .imm [], .imm [], .imm [], .imm [], .imm [], .str [], .int .i64 0, .str [], .str [], .int .i64 0]] (by simp [nleL, nle]) (callE_frame [0, 4, 2, 5] h3 rfl rfl (by simp) (by simp +decide -dsimp -implicitDefEqProofs [go_sem]) (by simp +decide -dsimp -implicitDefEqProofs [go_sem, hsr, hwc, hwn]) ?_)
  simp +decide -dsimp -implicitDefEqProofs [go_sem, hsr, hwc, hwn]
  refine callE_frame [0, 4, 2, 5] h5 rfl rfl (by simp) (by simp +decide -dsimp -implicitDefEqProofs [go_sem]) (by simp +decide -dsimp -implicitDefEqProofs [go_sem, hsr, hwc, hwn]) ?_
  simp +decide -dsimp -implicitDefEqProofs [go_sem, hsr, hwc, hwn]
  refine callE_grow [0, 4, 2, 5] 2 h6 rfl (fun v G h => by rw [h.2]; rfl) (by simp +decide) (by simp +decide -dsimp -implicitDefEqProofs [go_sem]) (by simp +decide -dsimp -implicitDefEqProofs [go_sem, hsr, hwc, hwn]) ?_
  rintro _ _ ⟨rfl, rfl⟩
  simp +decide -dsimp -implicitDefEqProofs [go_sem, hsr, hwc, hwn]
  refine callE_frame [0, 4, 6, 7] h7 rfl rfl (by simp) (by simp +decide -dsimp -implicitDefEqProofs [go_sem]) (by simp +decide -dsimp -implicitDefEqProofs [go_sem, hsr, hwn]) ?_
  simp +decide -dsimp -implicitDefEqProofs [go_sem, hsr, hwn]
  refine callE_frame [0, 4, 6, 7] h8 rfl rfl (by simp) (by simp +decide -dsimp -implicitDefEqProofs [go_sem]) (by simp +decide -dsimp -implicitDefEqProofs [go_sem, hsr, hwn]) ?_
  simp +decide -dsimp -implicitDefEqProofs [go_sem, hsr, hwn]
end Go.Ab
