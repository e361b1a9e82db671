/- A subscriber that is behind is told anew. -/
import Derived.Test.YtneghlianebffaaGreatDoorE4
namespace Go.Ab
open Go Go.Proofs
set_option maxRecDepth 20000
def rA : Rcd := mkRec tA 1 tUsb
def behW (i : Nat) : RBus := ⟨if i = 0 then [] else [rA], [⟨tS, starF, if i ≤ 64 then (List.range i).map (fun (j : Nat) => ⟨(j : Int) + 1, 1, rA⟩) else [], if i = 0 then [] else [tA], decide (64 < i)⟩], i⟩
theorem beh0 : kW0.subR tS starF = (⟨[], [⟨tS, starF, [], [], true⟩], 0⟩, 0) := by decide +kernel
theorem beh0' : (⟨[], [⟨tS, starF, [], [], true⟩], 0⟩ : RBus).readR tS 1 = (behW 0, [], true, 0) := by
  delta RBus.readR RBus.wanted
  rw [wantF_eq]
  decide +kernel
theorem beh1 : ∀ i, i < 67 → (behW i).readyR rA = (behW (i + 1), 0) := by
  delta RBus.readyR RBus.tell rtell1
  rw [wantF_eq]
  decide +kernel
theorem beh2 : ∀ i, i < 68 → 64 < i → ∀ most, (behW i).readR tS most = (⟨[rA], [⟨tS, starF, [], [tA], false⟩], i⟩, [⟨i, 1, rA⟩], true, 0) := by
  intro i h1 h2 most
  have e : (behW i).find tS = some ⟨tS, starF, [], [tA], true⟩ := by
    unfold behW RBus.find
    simp [show ¬ i ≤ 64 by omega, show ¬ i = 0 by omega, h2]
  have ew : wantB starF rA = true := by rw [wantF_eq]; decide +kernel
  have er : (behW i).ready = [rA] := by unfold behW; simp [show ¬ i = 0 by omega]
  have es : (behW i).subs = [⟨tS, starF, [], [tA], true⟩] := by unfold behW; simp [show ¬ i ≤ 64 by omega, show ¬ i = 0 by omega, h2]
  have el : (behW i).last = i := rfl
  have ea : rA.path = tA := rfl
  unfold RBus.readR RBus.wanted
  rw [e]
  simp only [if_true, er, es, el, List.filter_cons, ew, List.filter_nil, List.map_cons, List.map_nil, putN, ea]
theorem beh3 : ∀ i : Nat, (⟨[rA], [⟨tS, starF, [], [tA], false⟩], i⟩ : RBus).readR tS 1 = (⟨[rA], [⟨tS, starF, [], [tA], false⟩], i⟩, [], false, 0) := by
  intro i
  unfold RBus.readR RBus.find
  simp [putN, clampN]
theorem beh4 (i : Nat) (h : i ≤ 64) (most : Int) : (behW i).readR tS most = (((behW i).readR tS most).1, ((behW i).readR tS most).2.1, false, 0) ∧ ((behW i).readR tS most).2.1.length = clampN most i := by
  have e : (behW i).find tS = some ⟨tS, starF, (List.range i).map (fun (j : Nat) => ⟨(j : Int) + 1, 1, rA⟩), if i = 0 then [] else [tA], false⟩ := by
    unfold behW RBus.find
    simp [h]
  unfold RBus.readR
  rw [e]
  simp only [Bool.false_eq_true, if_false, List.length_map, List.length_range, List.length_take]
  refine ⟨trivial, ?_⟩
  unfold clampN
  split <;> omega
def behS (m most : Int) (s : Nat × List AObj) : St := ⟨tmps 99 [(0, .int .i64 m), (1, .int .i64 most), (5, .ptr 2 0), (9, .int .i64 s.1)], s.2⟩
def behI (m : Nat) (s : Nat × List AObj) : Prop := s.1 ≤ m ∧ ∃ B, Bx s.2 2 0 1 (behW s.1) s.1 noK B
set_option maxHeartbeats 4000000 in
theorem NotifyBehind_c (n most : Int) : ACalls Tryz.prog 3 [.int .i64 n, .int .i64 most] [] (.bool true) [] := by
  refine acalls_A c3_ok rfl ?_
  unfold c3
  refine awp_go ?_
  simp +decide -dsimp -implicitDefEqProofs [go_sem]
  unfold goE
  refine awp_go ?_
  simp +decide -dsimp -implicitDefEqProofs [go_sem]
  refine callE_R (newW_c [] noK (fun _ h => h.elim)) ?_
  rintro _ G0 ⟨rfl, ⟨⟨B0, h0⟩, _⟩⟩
  simp +decide -dsimp -implicitDefEqProofs [go_sem]
  unfold goE
  refine awp_go ?_
  simp +decide -dsimp -implicitDefEqProofs [go_sem]
  have c1 := subW_c (W := kW0) h0 tS starF (by decide)
  rw [beh0] at c1
  refine callE_R c1 ?_
  rintro _ G1 ⟨rfl, ⟨⟨B1, h1⟩, _⟩⟩
  simp +decide -dsimp -implicitDefEqProofs [go_sem]
  unfold goE
  refine awp_go ?_
  simp +decide -dsimp -implicitDefEqProofs [go_sem]
  have c2 := readW_c h1 (by decide) tS 1
  rw [beh0'] at c2
  refine callE_R c2 ?_
  rintro _ G2 ⟨rfl, ⟨⟨B2, h2⟩, _⟩⟩
  simp +decide -dsimp -implicitDefEqProofs [go_sem]
  unfold goE
  refine awp_go ?_
  simp +decide -dsimp -implicitDefEqProofs [go_sem]
  refine callE_pure (Fold_c n 7 (by decide)) rfl rfl ?_
  have hb := fold_bd n 7 (by omega)
  obtain ⟨m0, hm⟩ : ∃ m : Nat, fold n 7 = m := ⟨_, (Int.toNat_of_nonneg hb.1).symm⟩
  rw [hm] at hb ⊢
  have w0 : IntKind.i64.wrap (61 + (m0 : Int)) = ((61 + m0 : Nat) : Int) := by rw [w64 (by omega) (by omega)]; omega
  obtain ⟨m, hm2⟩ : ∃ m, m = 61 + m0 := ⟨_, rfl⟩
  rw [← hm2] at w0
  have hm3 : 61 ≤ m ∧ m ≤ 67 := by omega
  simp +decide -dsimp -implicitDefEqProofs [go_sem, w0]
  unfold goE
  refine awp_go ?_
  simp +decide -dsimp -implicitDefEqProofs [go_sem]
  refine loop_ofA (S := Nat × List AObj) (behS m most) (fun s => m - s.1) (behI m) (0, G2) ⟨Nat.zero_le _, B2, h2⟩ (Wk.jk ?_) ?_
  · simp +decide -dsimp -implicitDefEqProofs [go_sem, jkT]
  rintro ⟨i, G⟩ ⟨hi, B, hB⟩
  simp only at hi hB
  unfold behS
  simp only
  by_cases hlt : i < m
  · have w1 : IntKind.i64.wrap ((i : Int) + 1) = i + 1 := w64 (by omega) (by omega)
    have c3 := readyW_c hB (by omega) rA (mk_few _ _ _ (by decide) (by decide))
    rw [beh1 i (by omega)] at c3
    refine awp_of ?_
    simp +decide -dsimp -implicitDefEqProofs [go_sem, hlt]
    refine callE_pure (made_c tA 1 tUsb) rfl (by rw [closed]; exact rRow_cl 0 _) ?_
    simp +decide -dsimp -implicitDefEqProofs [go_sem]
    refine callE_R c3 ?_
    rintro _ G3 ⟨rfl, ⟨⟨B3, h3⟩, _⟩⟩
    simp +decide -dsimp -implicitDefEqProofs [go_sem, w1]
    refine next_of (S := Nat × List AObj) (i + 1, G3) ⟨hlt, B3, h3⟩ (by show m - (i + 1) < m - i; omega) (Wk.jk ?_)
    simp +decide -dsimp -implicitDefEqProofs [go_sem, jkT]
  · have e : i = m := by omega
    subst e
    refine awp_of ?_
    simp +decide -dsimp -implicitDefEqProofs [go_sem]
    unfold goE
    refine awp_go ?_
    simp +decide -dsimp -implicitDefEqProofs [go_sem]
    have c4 := readW_c hB (by omega) tS most
    by_cases h64 : 64 < i
    · rw [beh2 i (by omega) h64] at c4
      refine callE_R c4 ?_
      rintro _ G3 ⟨rfl, ⟨⟨B3, h3⟩, _⟩⟩
      have h64' : (64 : Int) < i := by omega
      have c5 := readW_c h3 (by omega) tS 1
      rw [beh3] at c5
      simp +decide -dsimp -implicitDefEqProofs [go_sem]
      unfold goE
      refine awp_of ?_
      simp +decide -dsimp -implicitDefEqProofs [go_sem, h64']
      refine callE_R c5 ?_
      rintro _ G4 ⟨rfl, _⟩
      have e1 := ntRow_e ⟨i, 1, rA⟩
      simp +decide -dsimp -implicitDefEqProofs [go_sem, e1]
      refine callE_pure known_c rfl rfl ?_
      simp +decide -dsimp -implicitDefEqProofs [go_sem]
    · obtain ⟨b1, b2⟩ := beh4 i (by omega) most
      rw [b1] at c4
      generalize (((behW i).readR tS most).2.1) = L at c4 b2
      refine callE_R c4 ?_
      rintro _ G3 ⟨rfl, _⟩
      have h64' : ¬ (64 : Int) < i := by omega
      simp +decide -dsimp -implicitDefEqProofs [go_sem]
      unfold goE
      refine awp_of ?_
      clear b1 hB h64
      obtain ⟨v, hv⟩ : ∃ v, v = (if (i : Int) < most then (i : Int) else most) := ⟨_, rfl⟩
      have em : (if 0 < v then v else 0) = ((clampN most i : Nat) : Int) := by
        rw [hv]; unfold clampN
        split <;> split <;> split <;> omega
      obtain ⟨q, hq⟩ : ∃ q, q = clampN most i := ⟨_, rfl⟩
      rw [← hq] at b2 em
      have hLl : (L.map ntRow).length = q := by rw [List.length_map, b2]
      generalize L.map ntRow = L2 at hLl
      simp +decide -dsimp -implicitDefEqProofs [go_sem, h64', ← hv, em, hLl]
      refine callE_pure known_c rfl rfl ?_
      simp +decide -dsimp -implicitDefEqProofs [go_sem]
end Go.Ab
