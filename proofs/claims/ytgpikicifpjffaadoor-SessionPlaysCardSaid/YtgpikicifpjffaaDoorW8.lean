/- A layer of abstract values over the model, and what is proved with it: part W8. -/
import Derived.Test.YtgpikicifpjffaaDoorW7
namespace Go.Ab
open Go Go.Proofs
def stP (t : List Int) (raw : List UInt8) (s : Nat × Nat × Int × List Ses) : St := ⟨tmps 159 [(1, .str raw), (4, .bool false), (5, .ptr 0 0), (6, .ptr 1 0), (7, .int .i64 s.1)], [tapeO t s.2.1, .box [.int .i64 s.2.2.1, .imm (s.2.2.2.map sesR)]]⟩
theorem rClose_R {n : Int} {l : List Ses} (h : Made n l) (i : Int) (hl : l.length < 1000000000) : ACalls Tryd.prog 28 [ssV n l, .int .i64 i] [] (resV n (closeR l i)) [] := by
  rw [← close_same h i]; exact rClose_c n l i hl
set_option maxHeartbeats 8000000 in
set_option maxRecDepth 20000 in
theorem Plays_c (t : List Int) (raw : List UInt8) : ACalls Tryd.prog 10 [tapeA t, .str raw] [] (.bool true) [] := by
  refine acalls_F c10_ok rfl ?_
  unfold c10 tapeA
  have kn : ∀ (H : List AObj) (K : List AObj → AV → Prop) (u : TagOf K), K H (.bool true) → callE Tryd.prog 15 [] H K u := fun H K u hK => callE_pure known_c rfl rfl hK
  by_cases h1 : (raw.length : Int) > 100
  · simp +decide -dsimp -implicitDefEqProofs [go_sem, h1]
    refine kn _ _ _ ?_
    simp +decide -dsimp -implicitDefEqProofs [go_sem]
  simp +decide -dsimp -implicitDefEqProofs [go_sem, h1]
  obtain ⟨av, H', ⟨n0, l0, k0, hm0, hl0, hn0, hk0, rfl, rfl⟩, hS⟩ := Sessions_c t 0 (by omega)
  refine callE_frame [0] hS rfl rfl (by simp) (by simp [go_sem]) (by simp [tape0_at]) ?_
  simp +decide -dsimp -implicitDefEqProofs [go_sem, ssV]
  refine callE_frame [0] (Next_c t k0 14 (by omega) (by omega)) rfl rfl (by simp) (by simp [go_sem]) (by simp [tapeO_ren]) ?_
  have bN := fold_bd (tapeV t k0) 14 (by omega)
  obtain ⟨N, hN⟩ : ∃ N : Nat, fold (tapeV t k0) 14 = N := ⟨(fold (tapeV t k0) 14).toNat, by omega⟩
  rw [hN] at bN ⊢
  simp +decide -dsimp -implicitDefEqProofs [go_sem]
  refine loop_of (S := Nat × Nat × Int × List Ses) (stP t raw) (fun s => s.1) (fun s => s.1 ≤ N ∧ s.2.1 + 8 * s.1 ≤ k0 + 1 + 8 * N ∧ Made s.2.2.1 s.2.2.2 ∧ s.2.2.2.length ≤ 32 ∧ s.2.2.1 + s.1 ≤ 65 + N) (N, k0 + 1, n0, l0) ⟨by simp, by simp, hm0, hl0, by simp only; omega⟩ (cut_of (by simp) ?_) ?_
  · simp +decide -dsimp -implicitDefEqProofs [go_sem, tapeO]
  rintro ⟨k, q, n, l⟩ ⟨hk, hq, hm, hl, hn⟩
  simp only at hk hq hm hl hn
  have hm1 := hm.n1
  have hlt : l.length < 1000000000 := by omega
  unfold stP
  by_cases h : 0 < k
  · have h' : (k : Int) > 0 := by omega
    have w : IntKind.i64.wrap ((k : Int) - 1) = ((k - 1 : Nat) : Int) := by rw [w64 (by omega) (by omega)]; omega
    have wn : IntKind.i64.wrap (n + 2) = n + 2 := w64 (by omega) (by omega)
    simp +decide -dsimp -implicitDefEqProofs [go_sem, h, wn]
    refine callE_frame [0] (Next_c t q (n + 2) (by omega) (by omega)) rfl rfl (by simp) (by simp [go_sem]) (by simp [tapeO_ren]) ?_
    generalize fold (tapeV t q) (n + 2) = id0
    simp +decide -dsimp -implicitDefEqProofs [go_sem]
    refine callE_frame [0] (One_c t (q + 1) [seat0, seat1, seat2, raw] (by omega) (by simp) (by simp)) rfl rfl (by simp) rfl (by simp [tapeO_ren]) ?_
    generalize oneS [seat0, seat1, seat2, raw] (tapeV t (q + 1)) = z
    by_cases e0 : l.length = 0
    obtain ⟨id, hid⟩ : ∃ id : Int, id = id0 := ⟨_, rfl⟩
    rw [← hid]
    have e0' : ¬ (l.length : Int) > 0 := by omega
    obtain ⟨q2, hq2, hq3⟩ : ∃ q2, q2 = q + 1 + 1 ∧ q2 ≤ q + 4 := ⟨_, rfl, by omega⟩
    rw [← hq2]
    simp +decide -dsimp -implicitDefEqProofs [go_sem, e0]
    rotate_left
    have e0' : (l.length : Int) > 0 := by omega
    have e0p : 0 < l.length := by omega
    simp +decide -dsimp -implicitDefEqProofs [go_sem, e0p]
    refine callE_frame [0] (Next_c t (q + 1 + 1) 2 (by omega) (by omega)) rfl rfl (by simp) (by simp [go_sem]) (by simp [tapeO_ren]) ?_
    by_cases e1 : fold (tapeV t (q + 1 + 1)) 2 = 0
    simp +decide -dsimp -implicitDefEqProofs [go_sem, e1]
    refine callDE_frame [0] (Next_c t (q + 1 + 1 + 1) l.length (by omega) (by omega)) rfl rfl (by simp) (by simp [go_sem]) (by simp [tapeO_ren]) ?_
    have bi := fold_bd (tapeV t (q + 1 + 1 + 1)) l.length (by omega)
    obtain ⟨i, hi, hil⟩ : ∃ i : Nat, fold (tapeV t (q + 1 + 1 + 1)) l.length = i ∧ i < l.length := ⟨(fold (tapeV t (q + 1 + 1 + 1)) l.length).toNat, by omega, by omega⟩
    rw [hi]
    obtain ⟨id, hid⟩ : ∃ id : Int, id = l[i].id := ⟨_, rfl⟩
    obtain ⟨q2, hq2, hq3⟩ : ∃ q2, q2 = q + 1 + 1 + 1 + 1 ∧ q2 ≤ q + 4 := ⟨_, rfl, by omega⟩
    rw [← hq2]
    simp +decide -dsimp -implicitDefEqProofs [go_sem, hil, sesR, ← hid]
    rotate_left
    obtain ⟨id, hid⟩ : ∃ id : Int, id = id0 := ⟨_, rfl⟩
    rw [← hid]
    obtain ⟨q2, hq2, hq3⟩ : ∃ q2, q2 = q + 1 + 1 + 1 ∧ q2 ≤ q + 4 := ⟨_, rfl, by omega⟩
    rw [← hq2]
    simp +decide -dsimp -implicitDefEqProofs [go_sem, e1]
    all_goals
      refine callE_frame [0] (Next_c t q2 5 (by omega) (by omega)) rfl rfl (by simp) (by simp [go_sem]) (by simp [tapeO_ren]) ?_
      generalize fold (tapeV t q2) 5 = v
      by_cases c0 : v = 0
      · simp +decide -dsimp -implicitDefEqProofs [go_sem, c0]
        have hc := Close_c n l id hlt
        rw [closeS_R] at hc
        have hr := rClose_R hm id hlt
        skip
        cases e : closeR l id with
        | none =>
          rw [e] at hc hr
          simp only [resV, errV, ssV, sesL, List.map_nil] at hc hr
          refine callE_pure hc (by simp [go_sem]) (by simp [go_sem]) ?_
          simp +decide -dsimp -implicitDefEqProofs [go_sem]
          refine callE_pure hr (by simp [go_sem]) (by simp [go_sem]) ?_
          simp +decide -dsimp -implicitDefEqProofs [go_sem]
          have c9 := Same_c 0 0 [] [] (by simp) (by simp)
          simp only [ssV, sesL, List.map_nil] at c9
          refine callE_pure c9 (by simp [go_sem]) rfl ?_
          simp +decide -dsimp -implicitDefEqProofs [go_sem]
          have u1 := User_u n l z (by have := (Rnd.same hm hl).len; omega)
          have u2 := rUser_u n l z (by have := (Rnd.same hm hl).len; omega)
          generalize userS l z = us at u1 u2
          simp only [ssV, sesL] at u1 u2
          refine callDE_pure u1 (by simp [go_sem]) rfl ?_
          simp +decide -dsimp -implicitDefEqProofs [go_sem]
          refine callDE_pure u2 (by simp [go_sem]) rfl ?_
          simp +decide -dsimp -implicitDefEqProofs [go_sem, w]
          refine next_of (k - 1, q2 + 1, n, l) ⟨by simp only; omega, by simp only; omega, (Rnd.same hm hl).made, (Rnd.same hm hl).len, by have := (Rnd.same hm hl).num; simp only; omega⟩ (by simp only; omega) (cut_of (by simp) ?_)
          simp +decide -dsimp -implicitDefEqProofs [go_sem, tapeO]
        | some l' =>
          rw [e] at hc hr
          simp only [resV, okV, ssV, sesL] at hc hr
          have hR : Rnd n l n l' := ⟨hm.close e, by have := closeR_len e; omega, by omega⟩
          refine callE_pure hc (by simp [go_sem]) (by simp [go_sem]) ?_
          simp +decide -dsimp -implicitDefEqProofs [go_sem]
          refine callE_pure hr (by simp [go_sem]) (by simp [go_sem]) ?_
          simp +decide -dsimp -implicitDefEqProofs [go_sem]
          have c9 := Same_c n n l' l' (by have := (hR).len; omega) (by have := (hR).len; omega)
          simp only [ssV, sesL] at c9
          refine callE_pure c9 (by simp [go_sem]) rfl ?_
          simp +decide -dsimp -implicitDefEqProofs [go_sem]
          have u1 := User_u n l' z (by have := (hR).len; omega)
          have u2 := rUser_u n l' z (by have := (hR).len; omega)
          generalize userS l' z = us at u1 u2
          simp only [ssV, sesL] at u1 u2
          refine callDE_pure u1 (by simp [go_sem]) rfl ?_
          simp +decide -dsimp -implicitDefEqProofs [go_sem]
          refine callDE_pure u2 (by simp [go_sem]) rfl ?_
          simp +decide -dsimp -implicitDefEqProofs [go_sem, w]
          refine next_of (k - 1, q2 + 1, n, l') ⟨by simp only; omega, by simp only; omega, (hR).made, (hR).len, by have := (hR).num; simp only; omega⟩ (by simp only; omega) (cut_of (by simp) ?_)
          simp +decide -dsimp -implicitDefEqProofs [go_sem, tapeO]
      by_cases c1 : v = 1
      · simp +decide -dsimp -implicitDefEqProofs [go_sem, c1]
        have hc := Activate_c n l id hlt
        rw [actS_R] at hc
        have hr := rActivate_c n l id hlt
        rw [actS_R] at hr
        cases e : actR l id with
        | none =>
          rw [e] at hc hr
          simp only [resV, errV, ssV, sesL, List.map_nil] at hc hr
          refine callE_pure hc (by simp [go_sem]) (by simp [go_sem]) ?_
          simp +decide -dsimp -implicitDefEqProofs [go_sem]
          refine callE_pure hr (by simp [go_sem]) (by simp [go_sem]) ?_
          simp +decide -dsimp -implicitDefEqProofs [go_sem]
          have c9 := Same_c 0 0 [] [] (by simp) (by simp)
          simp only [ssV, sesL, List.map_nil] at c9
          refine callE_pure c9 (by simp [go_sem]) rfl ?_
          simp +decide -dsimp -implicitDefEqProofs [go_sem]
          have u1 := User_u n l z (by have := (Rnd.same hm hl).len; omega)
          have u2 := rUser_u n l z (by have := (Rnd.same hm hl).len; omega)
          generalize userS l z = us at u1 u2
          simp only [ssV, sesL] at u1 u2
          refine callDE_pure u1 (by simp [go_sem]) rfl ?_
          simp +decide -dsimp -implicitDefEqProofs [go_sem]
          refine callDE_pure u2 (by simp [go_sem]) rfl ?_
          simp +decide -dsimp -implicitDefEqProofs [go_sem, w]
          refine next_of (k - 1, q2 + 1, n, l) ⟨by simp only; omega, by simp only; omega, (Rnd.same hm hl).made, (Rnd.same hm hl).len, by have := (Rnd.same hm hl).num; simp only; omega⟩ (by simp only; omega) (cut_of (by simp) ?_)
          simp +decide -dsimp -implicitDefEqProofs [go_sem, tapeO]
        | some l' =>
          rw [e] at hc hr
          simp only [resV, okV, ssV, sesL] at hc hr
          have hR : Rnd n l n l' := ⟨hm.activate e, by have := actR_len e; omega, by omega⟩
          refine callE_pure hc (by simp [go_sem]) (by simp [go_sem]) ?_
          simp +decide -dsimp -implicitDefEqProofs [go_sem]
          refine callE_pure hr (by simp [go_sem]) (by simp [go_sem]) ?_
          simp +decide -dsimp -implicitDefEqProofs [go_sem]
          have c9 := Same_c n n l' l' (by have := (hR).len; omega) (by have := (hR).len; omega)
          simp only [ssV, sesL] at c9
          refine callE_pure c9 (by simp [go_sem]) rfl ?_
          simp +decide -dsimp -implicitDefEqProofs [go_sem]
          have u1 := User_u n l' z (by have := (hR).len; omega)
          have u2 := rUser_u n l' z (by have := (hR).len; omega)
          generalize userS l' z = us at u1 u2
          simp only [ssV, sesL] at u1 u2
          refine callDE_pure u1 (by simp [go_sem]) rfl ?_
          simp +decide -dsimp -implicitDefEqProofs [go_sem]
          refine callDE_pure u2 (by simp [go_sem]) rfl ?_
          simp +decide -dsimp -implicitDefEqProofs [go_sem, w]
          refine next_of (k - 1, q2 + 1, n, l') ⟨by simp only; omega, by simp only; omega, (hR).made, (hR).len, by have := (hR).num; simp only; omega⟩ (by simp only; omega) (cut_of (by simp) ?_)
          simp +decide -dsimp -implicitDefEqProofs [go_sem, tapeO]
      by_cases c2 : v = 2
      · simp +decide -dsimp -implicitDefEqProofs [go_sem, c2]
        have hc := Switch_c n l z hlt
        rw [switchS_R] at hc
        have hr := rSwitch_c n l z hlt
        rw [switch_same hm] at hr
        cases e : switchR l z with
        | none =>
          rw [e] at hc hr
          simp only [resV3, ssV, sesL, List.map_nil] at hc hr
          refine callE_pure hc (by simp [go_sem]) (by simp [go_sem]) ?_
          simp +decide -dsimp -implicitDefEqProofs [go_sem]
          refine callE_pure hr (by simp [go_sem]) (by simp [go_sem]) ?_
          simp +decide -dsimp -implicitDefEqProofs [go_sem]
          have c9 := Same_c 0 0 [] [] (by simp) (by simp)
          simp only [ssV, sesL, List.map_nil] at c9
          refine callE_pure c9 (by simp [go_sem]) rfl ?_
          simp +decide -dsimp -implicitDefEqProofs [go_sem]
          have u1 := User_u n l z (by have := (Rnd.same hm hl).len; omega)
          have u2 := rUser_u n l z (by have := (Rnd.same hm hl).len; omega)
          generalize userS l z = us at u1 u2
          simp only [ssV, sesL] at u1 u2
          refine callDE_pure u1 (by simp [go_sem]) rfl ?_
          simp +decide -dsimp -implicitDefEqProofs [go_sem]
          refine callDE_pure u2 (by simp [go_sem]) rfl ?_
          simp +decide -dsimp -implicitDefEqProofs [go_sem, w]
          refine next_of (k - 1, q2 + 1, n, l) ⟨by simp only; omega, by simp only; omega, (Rnd.same hm hl).made, (Rnd.same hm hl).len, by have := (Rnd.same hm hl).num; simp only; omega⟩ (by simp only; omega) (cut_of (by simp) ?_)
          simp +decide -dsimp -implicitDefEqProofs [go_sem, tapeO]
        | some p =>
          obtain ⟨l', i⟩ := p
          rw [e] at hc hr
          simp only [resV3, ssV, sesL] at hc hr
          have hR : Rnd n l n l' := ⟨hm.switch e, by have := switchR_len e; omega, by omega⟩
          refine callE_pure hc (by simp [go_sem]) (by simp [go_sem]) ?_
          simp +decide -dsimp -implicitDefEqProofs [go_sem]
          refine callE_pure hr (by simp [go_sem]) (by simp [go_sem]) ?_
          simp +decide -dsimp -implicitDefEqProofs [go_sem]
          have c9 := Same_c n n l' l' (by have := (hR).len; omega) (by have := (hR).len; omega)
          simp only [ssV, sesL] at c9
          refine callE_pure c9 (by simp [go_sem]) rfl ?_
          simp +decide -dsimp -implicitDefEqProofs [go_sem]
          have u1 := User_u n l' z (by have := (hR).len; omega)
          have u2 := rUser_u n l' z (by have := (hR).len; omega)
          generalize userS l' z = us at u1 u2
          simp only [ssV, sesL] at u1 u2
          refine callDE_pure u1 (by simp [go_sem]) rfl ?_
          simp +decide -dsimp -implicitDefEqProofs [go_sem]
          refine callDE_pure u2 (by simp [go_sem]) rfl ?_
          simp +decide -dsimp -implicitDefEqProofs [go_sem, w]
          refine next_of (k - 1, q2 + 1, n, l') ⟨by simp only; omega, by simp only; omega, (hR).made, (hR).len, by have := (hR).num; simp only; omega⟩ (by simp only; omega) (cut_of (by simp) ?_)
          simp +decide -dsimp -implicitDefEqProofs [go_sem, tapeO]
      by_cases c3 : v = 3
      · simp +decide -dsimp -implicitDefEqProofs [go_sem, c3]
        refine callE_frame [0] (One_c t (q2 + 1) [seat1, seat2] (by omega) (by simp) (by simp)) rfl rfl (by simp) rfl (by simp [tapeO_ren]) ?_
        generalize oneS [seat1, seat2] (tapeV t (q2 + 1)) = y
        have hc := Prune_c n l [seat0, y] hlt (by simp)
        have hr := rPrune_c n l [seat0, y] hlt (by simp)
        have hR : Rnd n l n (l.filter fun x => decide (x.seat ∈ [seat0, y])) := ⟨hm.prune _, by have := List.length_filter_le (fun x : Ses => decide (x.seat ∈ [seat0, y])) l; omega, by omega⟩
        generalize (l.filter fun x => decide (x.seat ∈ [seat0, y])) = l' at hc hr hR
        simp only [ssV, sesL, strsV, List.map_cons, List.map_nil, seat0] at hc hr
        simp +decide -dsimp -implicitDefEqProofs [go_sem]
        refine callDE_pure hc (by simp [go_sem]) (by simp [go_sem]) ?_
        simp +decide -dsimp -implicitDefEqProofs [go_sem]
        refine callDE_pure hr (by simp [go_sem]) (by simp [go_sem]) ?_
        simp +decide -dsimp -implicitDefEqProofs [go_sem]
        have c9 := Same_c n n l' l' (by have := (hR).len; omega) (by have := (hR).len; omega)
        simp only [ssV, sesL] at c9
        refine callE_pure c9 (by simp [go_sem]) rfl ?_
        simp +decide -dsimp -implicitDefEqProofs [go_sem]
        have u1 := User_u n l' z (by have := (hR).len; omega)
        have u2 := rUser_u n l' z (by have := (hR).len; omega)
        generalize userS l' z = us at u1 u2
        simp only [ssV, sesL] at u1 u2
        refine callDE_pure u1 (by simp [go_sem]) rfl ?_
        simp +decide -dsimp -implicitDefEqProofs [go_sem]
        refine callDE_pure u2 (by simp [go_sem]) rfl ?_
        simp +decide -dsimp -implicitDefEqProofs [go_sem, w]
        refine next_of (k - 1, q2 + 1 + 1, n, l') ⟨by simp only; omega, by simp only; omega, (hR).made, (hR).len, by have := (hR).num; simp only; omega⟩ (by simp only; omega) (cut_of (by simp) ?_)
        simp +decide -dsimp -implicitDefEqProofs [go_sem, tapeO]
      simp +decide -dsimp -implicitDefEqProofs [go_sem, c0, c1, c2, c3]
      have hc := Open_c n l [101, 118, 101] z seatsL hlt (by decide) (by omega)
      have hr := rOpen_c n l [101, 118, 101] z seatsL hlt (by decide) (by omega)
      rw [← ofS_nil hm z] at hr
      rcases openG_split (decide ((ofS l z).length = 0)) n l [101, 118, 101] z seatsL with ⟨er, he1, _, he2⟩ | ⟨he, g1, g2, g3, g4⟩
      · rw [he2] at hc hr
        simp only [ssV, sesL, List.map_nil] at hc hr
        refine callE_pure hc (by simp [go_sem]) (by simp [go_sem]) ?_
        simp +decide -dsimp -implicitDefEqProofs [go_sem]
        refine callE_pure hr (by simp [go_sem]) (by simp [go_sem]) ?_
        simp +decide -dsimp -implicitDefEqProofs [go_sem]
        have c9 := Same_c 0 0 [] [] (by simp) (by simp)
        simp only [ssV, sesL, List.map_nil] at c9
        refine callE_pure c9 (by simp [go_sem]) rfl ?_
        simp +decide -dsimp -implicitDefEqProofs [go_sem, he1]
        have u1 := User_u n l z (by have := (Rnd.same hm hl).len; omega)
        have u2 := rUser_u n l z (by have := (Rnd.same hm hl).len; omega)
        generalize userS l z = us at u1 u2
        simp only [ssV, sesL] at u1 u2
        refine callDE_pure u1 (by simp [go_sem]) rfl ?_
        simp +decide -dsimp -implicitDefEqProofs [go_sem]
        refine callDE_pure u2 (by simp [go_sem]) rfl ?_
        simp +decide -dsimp -implicitDefEqProofs [go_sem, w]
        refine next_of (k - 1, q2 + 1, n, l) ⟨by simp only; omega, by simp only; omega, (Rnd.same hm hl).made, (Rnd.same hm hl).len, by have := (Rnd.same hm hl).num; simp only; omega⟩ (by simp only; omega) (cut_of (by simp) ?_)
        simp +decide -dsimp -implicitDefEqProofs [go_sem, tapeO]
      · rw [he] at hc hr
        have hR : Rnd n l (n + 1) (l ++ [⟨n, [101, 118, 101], z, decide ((ofS l z).length = 0)⟩]) := ⟨hm.open' g1 g2, by simp; omega, by omega⟩
        generalize (l ++ ([⟨n, [101, 118, 101], z, decide ((ofS l z).length = 0)⟩] : List Ses)) = l' at hc hr hR
        simp only [ssV, sesL] at hc hr
        refine callE_pure hc (by simp [go_sem]) (by simp [go_sem]) ?_
        simp +decide -dsimp -implicitDefEqProofs [go_sem]
        refine callE_pure hr (by simp [go_sem]) (by simp [go_sem]) ?_
        simp +decide -dsimp -implicitDefEqProofs [go_sem]
        have c9 := Same_c (n + 1) (n + 1) l' l' (by have := (hR).len; omega) (by have := (hR).len; omega)
        simp only [ssV, sesL] at c9
        refine callE_pure c9 (by simp [go_sem]) rfl ?_
        simp +decide -dsimp -implicitDefEqProofs [go_sem]
        have u1 := User_u (n + 1) l' z (by have := (hR).len; omega)
        have u2 := rUser_u (n + 1) l' z (by have := (hR).len; omega)
        generalize userS l' z = us at u1 u2
        simp only [ssV, sesL] at u1 u2
        refine callDE_pure u1 (by simp [go_sem]) rfl ?_
        simp +decide -dsimp -implicitDefEqProofs [go_sem]
        refine callDE_pure u2 (by simp [go_sem]) rfl ?_
        simp +decide -dsimp -implicitDefEqProofs [go_sem, w]
        refine next_of (k - 1, q2 + 1, (n + 1), l') ⟨by simp only; omega, by simp only; omega, (hR).made, (hR).len, by have := (hR).num; simp only; omega⟩ (by simp only; omega) (cut_of (by simp) ?_)
        simp +decide -dsimp -implicitDefEqProofs [go_sem, tapeO]
  · have e : k = 0 := by omega
    subst e
    simp +decide -dsimp -implicitDefEqProofs [go_sem]
    refine kn _ _ _ ?_
    simp +decide -dsimp -implicitDefEqProofs [go_sem]
end Go.Ab
