/- At most 16 subscribers, of different names. -/
import Derived.Test.YtneghlianebffaaGreatDoorKN
namespace Go.Ab
open Go Go.Proofs
set_option maxRecDepth 20000
def nmF (i : Nat) : Txt := [115, UInt8.ofNat (97 + i)]
def tNew : Txt := [110, 101, 119]
def starF : Flt := ⟨[42], []⟩
def fullW (i : Nat) : RBus := ⟨[], (List.range (min i 16)).map fun j => ⟨nmF j, starF, [], [], true⟩, 0⟩
theorem full1 : ∀ i, i < 18 → (fullW i).subR (nmF i) starF = (fullW (i + 1), if 16 ≤ i then 303 else 0) := by decide +kernel
theorem full2 : ∀ i, i < 16 → (fullW (i + 1)).subR (nmF i) starF = (fullW (i + 1), 302) := by decide +kernel
theorem full3 : ∀ i, i < 18 → 0 < i → ((fullW i).unsR (nmF 0)).2 = 0 ∧ (((fullW i).unsR (nmF 0)).1.subR tNew starF).2 = 0 := by decide +kernel
def fullS (m : Int) (s : Nat × List AObj) : St := ⟨tmps 58 [(0, .int .i64 m), (3, .ptr 2 0), (4, .int .i64 s.1)], s.2⟩
def fullI (m : Nat) (s : Nat × List AObj) : Prop := s.1 ≤ m ∧ ∃ B, Bx s.2 2 0 1 (fullW s.1) 0 noK B
theorem NotifyFull_c (n : Int) : ACalls Tryz.prog 4 [.int .i64 n] [] (.bool true) [] := by
  refine acalls_A c4_ok rfl ?_
  unfold c4
  refine awp_go ?_
  simp +decide -dsimp -implicitDefEqProofs [go_sem]
  unfold goE
  refine awp_go ?_
  simp +decide -dsimp -implicitDefEqProofs [go_sem]
  refine callE_R (newW_c [] noK (fun _ h => h.elim)) ?_
  rintro _ G0 ⟨rfl, ⟨⟨B0, h0⟩, _⟩⟩
  simp +decide -dsimp -implicitDefEqProofs [go_sem]
  unfold goE
  refine awp_go ?_
  simp +decide -dsimp -implicitDefEqProofs [go_sem]
  unfold goE
  refine awp_go ?_
  simp +decide -dsimp -implicitDefEqProofs [go_sem]
  refine callE_pure (Fold_c n 18 (by decide)) rfl rfl ?_
  have hb := fold_bd n 18 (by omega)
  obtain ⟨m, hm⟩ : ∃ m : Nat, fold n 18 = m := ⟨_, (Int.toNat_of_nonneg hb.1).symm⟩
  rw [hm] at hb ⊢
  have hm18 : m < 18 := by omega
  simp +decide -dsimp -implicitDefEqProofs [go_sem]
  unfold goE
  refine awp_go ?_
  simp +decide -dsimp -implicitDefEqProofs [go_sem]
  refine loop_ofA (S := Nat × List AObj) (fullS m) (fun s => m - s.1) (fullI m) (0, G0) ⟨Nat.zero_le _, B0, h0⟩ (Wk.jk ?_) ?_
  · simp +decide -dsimp -implicitDefEqProofs [go_sem, jkT]
  rintro ⟨i, G⟩ ⟨hi, B, hB⟩
  simp only at hi hB
  unfold fullS
  simp only
  by_cases hlt : i < m
  · have w1 : IntKind.i64.wrap ((i : Int) + 1) = i + 1 := w64 (by omega) (by omega)
    have w2 : IntKind.i64.wrap (97 + (i : Int)) = 97 + i := w64 (by omega) (by omega)
    have w3 : IntKind.u8.wrap (97 + (i : Int)) = 97 + i := by simp [IntKind.wrap, IntKind.signed, IntKind.bits]; omega
    have u1 : unb [[AV.int .u8 (97 + (i : Int))]] = some [UInt8.ofNat (97 + i)] := by
      have := unb_one (n := 97 + i) (by omega)
      rwa [show ((97 + i : Nat) : Int) = 97 + (i : Int) by omega] at this
    have f1 := full1 i (by omega)
    have c1 := subW_c hB (nmF i) starF (by decide)
    rw [f1] at c1
    obtain ⟨c, hc⟩ : ∃ c, c = UInt8.ofNat (97 + i) := ⟨_, rfl⟩
    have hn : nmF i = [115, c] := by rw [hc]; rfl
    rw [← hc] at u1
    rw [hn] at c1
    by_cases h16 : i < 16
    · have h16' : ¬ (16 : Int) ≤ i := by omega
      have h16n : ¬ 16 ≤ i := by omega
      rw [if_neg h16n] at c1
      refine awp_of ?_
      simp +decide -dsimp -implicitDefEqProofs [go_sem, hlt, h16', w2, w3, u1]
      refine callE_R c1 ?_
      rintro _ G1 ⟨rfl, ⟨⟨B1, h1⟩, _⟩⟩
      simp +decide -dsimp -implicitDefEqProofs [go_sem]
      have c2 := subW_c h1 (nmF i) starF (by decide)
      rw [full2 i h16, hn] at c2
      refine callE_R c2 ?_
      rintro _ G2 ⟨rfl, ⟨⟨B2, h2⟩, _⟩⟩
      simp +decide -dsimp -implicitDefEqProofs [go_sem, w1]
      refine next_of (S := Nat × List AObj) (i + 1, G2) ⟨hlt, B2, h2⟩ (by show m - (i + 1) < m - i; omega) (Wk.jk ?_)
      simp +decide -dsimp -implicitDefEqProofs [go_sem, jkT]
    · have h16' : (16 : Int) ≤ i := by omega
      rw [if_pos (by omega)] at c1
      refine awp_of ?_
      simp +decide -dsimp -implicitDefEqProofs [go_sem, hlt, h16', w2, w3, u1]
      refine callE_R c1 ?_
      rintro _ G1 ⟨rfl, ⟨⟨B1, h1⟩, _⟩⟩
      simp +decide -dsimp -implicitDefEqProofs [go_sem, w1]
      refine next_of (S := Nat × List AObj) (i + 1, G1) ⟨hlt, B1, h1⟩ (by show m - (i + 1) < m - i; omega) (Wk.jk ?_)
      simp +decide -dsimp -implicitDefEqProofs [go_sem, jkT]
  · have e : i = m := by omega
    subst e
    refine awp_of ?_
    simp +decide -dsimp -implicitDefEqProofs [go_sem]
    unfold goE
    refine awp_of ?_
    by_cases h0 : i = 0
    · subst h0
      simp +decide -dsimp -implicitDefEqProofs [go_sem]
      refine callE_pure known_c rfl rfl ?_
      simp +decide -dsimp -implicitDefEqProofs [go_sem]
    · obtain ⟨f1, f2⟩ := full3 i hm18 (by omega)
      have c1 := unsW_c hB (nmF 0)
      rw [f1] at c1
      simp +decide -dsimp -implicitDefEqProofs [go_sem, h0]
      refine callE_R c1 ?_
      rintro _ G1 ⟨rfl, ⟨⟨B1, h1⟩, _⟩⟩
      have c2 := subW_c h1 tNew starF (by decide)
      rw [f2] at c2
      simp +decide -dsimp -implicitDefEqProofs [go_sem, h0]
      refine callE_R c2 ?_
      rintro _ G2 ⟨rfl, _⟩
      simp +decide -dsimp -implicitDefEqProofs [go_sem, h0]
      refine callE_pure known_c rfl rfl ?_
      simp +decide -dsimp -implicitDefEqProofs [go_sem]
end Go.Ab
