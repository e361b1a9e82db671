/- A layer of abstract values over the model, and what is proved with it: part W7. -/
import Derived.Test.YtgpikicifpjffaaDoorW6
namespace Go.Ab
open Go Go.Proofs
theorem v_seats : ∀ z ∈ seatsL, validB z = true := by decide +kernel
theorem openG_seat {b : Bool} {n : Int} {l : List Ses} {u z : List UInt8} (hu : validB u = true) (hz : z ∈ seatsL) (hn : n < 1073741824) :
    openG b n l u z seatsL = if 32 ≤ l.length then .tup [ssV 0 [], .int .i64 0, .int .i64 372] else .tup [ssV (n + 1) (l ++ [⟨n, u, z, b⟩]), .int .i64 n, .int .i64 0] := by
  unfold openG
  rw [if_neg (by simp [hu]), if_neg (by simp [v_seats z hz, hz])]
  by_cases h : 32 ≤ l.length
  · rw [if_pos h, if_pos (.inl h)]
  · rw [if_neg h, if_neg (by omega)]

/-- Activating and activating back. -/
theorem act_back {n : Int} {l : List Ses} (h : Made n l) {i k : Nat} (hi : i < l.length) (hk : k < l.length) (ha : l[i].act = true) (hs : l[k].seat = l[i].seat) :
    actR l l[k].id = some (l.map (turnS l[k].seat l[k].id)) ∧ actR (l.map (turnS l[k].seat l[k].id)) l[i].id = some l ∧ userS (l.map (turnS l[k].seat l[k].id)) l[k].seat = l[k].user := by
  have h1 := actR_at h (List.getElem_mem hk)
  have hM := h.activate h1
  refine ⟨h1, ?_, userS_turn h (List.getElem_mem hk)⟩
  have h2 := actR_at hM (x := turnS l[k].seat l[k].id l[i]) (List.mem_map.2 ⟨_, List.getElem_mem hi, rfl⟩)
  rw [turnS_id, turnS_seat, hs, turn_turn, turn_self h (List.getElem_mem hi) ha] at h2
  rw [hs]; exact h2

def stB (t : List Int) (q : Nat) (n : Int) (l : List Ses) (s : Nat) : St := ⟨tmps 141 [(2, .bool false), (4, .ptr 1 0), (9, .int .i64 s)], [tapeO t q, .box [.int .i64 n, .imm (l.map sesR)]]⟩
def stB2 (t : List Int) (q : Nat) (n : Int) (l : List Ses) (i : Nat) (s : Nat) : St := ⟨tmps 141 [(2, .bool false), (4, .ptr 1 0), (9, .int .i64 i), (10, .int .i64 s)], [tapeO t q, .box [.int .i64 n, .imm (l.map sesR)]]⟩
set_option maxHeartbeats 4000000 in
set_option maxRecDepth 20000 in
theorem Back_c (t : List Int) : ACalls Tryd.prog 9 [tapeA t] [] (.bool true) [] := by
  refine acalls_F c9_ok rfl ?_
  unfold c9 tapeA
  have kn : ∀ (H : List AObj) (K : List AObj → AV → Prop) (u : TagOf K), K H (.bool true) → callE Tryd.prog 15 [] H K u := fun H K u hK => callE_pure known_c rfl rfl hK
  simp +decide -dsimp -implicitDefEqProofs [go_sem]
  obtain ⟨av, H', ⟨n, l, k, hm, hl, hn, hk, rfl, rfl⟩, hS⟩ := Sessions_c t 0 (by omega)
  refine callE_frame [0] hS rfl rfl (by simp) (by simp [go_sem]) (by simp [tape0_at]) ?_
  have hm1 := hm.n1
  have hlt : l.length < 1000000000 := by omega
  simp +decide -dsimp -implicitDefEqProofs [go_sem, ssV]
  refine callDE_frame [0] (One_c t k seatsL (by omega) (by decide) (by decide)) rfl rfl (by simp) rfl (by simp [tapeO_ren]) ?_
  have hz : oneS seatsL (tapeV t k) ∈ seatsL := oneS_mem (tapeV t k) (show seatsL ≠ [] by decide)
  generalize oneS seatsL (tapeV t k) = z at hz
  simp +decide -dsimp -implicitDefEqProofs [go_sem]
  have hc := Open_c n l [101, 118, 101] z seatsL hlt (by decide) (by omega)
  rw [openG_seat v_eve hz (by omega)] at hc
  by_cases h32 : 32 ≤ l.length
  · rw [if_pos h32] at hc
    simp only [ssV, sesL] at hc
    refine callDE_pure hc (by simp [go_sem]) (by simp [go_sem]) ?_
    simp +decide -dsimp -implicitDefEqProofs [go_sem]
    refine kn _ _ _ ?_
    simp +decide -dsimp -implicitDefEqProofs [go_sem]
  rw [if_neg h32] at hc
  have c1 := Close_c (n + 1) (l ++ [⟨n, [101, 118, 101], z, decide ((ofS l z).length = 0)⟩]) n (by simp; omega)
  rw [closeS_R, close_opened hm _ rfl rfl] at c1
  generalize (l ++ ([⟨n, [101, 118, 101], z, decide ((ofS l z).length = 0)⟩] : List Ses)) = l' at hc c1
  simp only [resV, okV, ssV, sesL] at hc c1
  refine callDE_pure hc (by simp [go_sem]) (by simp [go_sem]) ?_
  simp +decide -dsimp -implicitDefEqProofs [go_sem]
  refine callE_pure c1 (by simp [go_sem]) (by simp [go_sem]) ?_
  have wn : IntKind.i64.wrap (n + 1 - 1) = n := by rw [w64 (by omega) (by omega)]; omega
  have wn' : IntKind.i64.wrap n = n := w64 (by omega) (by omega)
  simp +decide -dsimp -implicitDefEqProofs [go_sem, wn']
  have c2 := Same_c n n l l hlt hlt
  simp only [ssV, sesL] at c2
  refine callE_pure c2 (by simp [go_sem]) rfl ?_
  simp +decide -dsimp -implicitDefEqProofs [go_sem]
  refine loop_of (S := Nat) (stB t (k + 1) n l) (fun s => l.length - s) (fun s => s ≤ l.length) 0 (by simp) (cut_of (by simp) ?_) ?_
  · simp +decide -dsimp -implicitDefEqProofs [go_sem, tapeO]
  intro i hi
  unfold stB
  by_cases h : i < l.length
  · have h' : (i : Int) < l.length := by omega
    have w : IntKind.i64.wrap ((i : Int) + 1) = i + 1 := w64 (by omega) (by omega)
    by_cases ha : l[i].act = true
    · simp +decide -dsimp -implicitDefEqProofs [go_sem, h, h', sesR, ha]
      refine loop_of (S := Nat) (stB2 t (k + 1) n l i) (fun s => l.length - s) (fun s => s ≤ l.length) 0 (by simp) (cut_of (by simp) ?_) ?_
      · simp +decide -dsimp -implicitDefEqProofs [go_sem, tapeO]
      intro j hj
      unfold stB2
      by_cases g : j < l.length
      · have g' : (j : Int) < l.length := by omega
        have w2 : IntKind.i64.wrap ((j : Int) + 1) = j + 1 := w64 (by omega) (by omega)
        by_cases hs : l[j].seat = l[i].seat
        · obtain ⟨b1, b2, b3⟩ := act_back hm h g ha hs
          have a1 := Activate_c n l l[j].id hlt
          rw [actS_R, b1] at a1
          have a2 := Activate_c n (l.map (turnS l[j].seat l[j].id)) l[i].id (by simp; omega)
          rw [actS_R, b2] at a2
          have a3 := User_u n (l.map (turnS l[j].seat l[j].id)) l[j].seat (by simp; omega)
          rw [b3] at a3
          generalize l.map (turnS l[j].seat l[j].id) = la at a1 a2 a3
          rw [hs] at a3
          simp only [resV, okV, ssV, sesL] at a1 a2 a3
          simp +decide -dsimp -implicitDefEqProofs [go_sem, h, g, g', sesR, hs]
          refine callDE_pure a1 (by simp [go_sem]) (by simp [go_sem]) ?_
          simp +decide -dsimp -implicitDefEqProofs [go_sem, h, sesR]
          refine callDE_pure a2 (by simp [go_sem]) (by simp [go_sem]) ?_
          simp +decide -dsimp -implicitDefEqProofs [go_sem]
          refine callDE_pure c2 (by simp [go_sem]) rfl ?_
          simp +decide -dsimp -implicitDefEqProofs [go_sem, g, sesR, hs]
          refine callDE_pure a3 (by simp [go_sem]) rfl ?_
          simp +decide -dsimp -implicitDefEqProofs [go_sem, g, sesR, hs, w2]
          refine next_of (j + 1) (by omega) (by omega) (cut_of (by simp) ?_)
          simp +decide -dsimp -implicitDefEqProofs [go_sem, tapeO]
        · simp +decide -dsimp -implicitDefEqProofs [go_sem, h, g, g', sesR, hs, w2]
          refine next_of (j + 1) (by omega) (by omega) (cut_of (by simp) ?_)
          simp +decide -dsimp -implicitDefEqProofs [go_sem, tapeO]
      · simp +decide -dsimp -implicitDefEqProofs [go_sem, g, w]
        refine next_of (i + 1) (by omega) (by omega) (cut_of (by simp) ?_)
        simp +decide -dsimp -implicitDefEqProofs [go_sem, tapeO]
    · simp +decide -dsimp -implicitDefEqProofs [go_sem, h, h', sesR, ha, w]
      refine next_of (i + 1) (by omega) (by omega) (cut_of (by simp) ?_)
      simp +decide -dsimp -implicitDefEqProofs [go_sem, tapeO]
  · have e : i = l.length := by omega
    subst e
    simp +decide -dsimp -implicitDefEqProofs [go_sem]
    refine kn _ _ _ ?_
    simp +decide -dsimp -implicitDefEqProofs [go_sem]
end Go.Ab
