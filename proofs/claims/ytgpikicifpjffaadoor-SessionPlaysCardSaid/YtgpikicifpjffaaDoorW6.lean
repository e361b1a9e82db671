/- A layer of abstract values over the model, and what is proved with it: part W6. -/
import Derived.Test.YtgpikicifpjffaaDoorW5
namespace Go.Ab
open Go Go.Proofs
theorem elsewhere_close {n : Int} {l l' : List Ses} {z : List UInt8} {i : Int} (_h : Made n l) (hz : ∀ x ∈ l, x.id = i → x.seat = z) (e : closeR l i = some l') : (l'.filter fun x => x.seat != z) = l.filter fun x => x.seat != z := by
  unfold closeR at e
  split at e
  · rename_i x hx
    have hxs : x.seat = z := hz x (List.mem_of_find?_eq_some hx) (by simpa using List.find?_some hx)
    have hf : ((l.filter (·.id != i)).filter fun x => x.seat != z) = l.filter fun x => x.seat != z := elsewhere_filter l z _ fun y hy hs => by
      cases e2 : (y.id != i) with
      | true => rfl
      | false => exact absurd (hz y hy (by simpa using e2)) hs
    split at e <;> cases e
    · rw [hxs, elsewhere_turn]; exact hf
    · exact hf
  · cases e
theorem elsewhere_act {l l' : List Ses} {z : List UInt8} {i : Int} (hz : ∀ x ∈ l, x.id = i → x.seat = z) (e : actR l i = some l') : (l'.filter fun x => x.seat != z) = l.filter fun x => x.seat != z := by
  unfold actR at e
  split at e <;> cases e
  rename_i x hx
  have hxs : x.seat = z := hz x (List.mem_of_find?_eq_some hx) (by simpa using List.find?_some hx)
  rw [hxs, elsewhere_turn]
theorem elsewhere_switch {l l' : List Ses} {z : List UInt8} {i : Int} (e : switchR l z = some (l', i)) : (l'.filter fun x => x.seat != z) = l.filter fun x => x.seat != z := by
  unfold switchR at e
  split at e
  · simp only [Option.some.injEq, Prod.mk.injEq] at e; rw [← e.1, elsewhere_turn]
  · cases e
theorem v_eve : validB [101, 118, 101] = true := by decide +kernel

def stA (t : List Int) (n : Int) (l : List Ses) (z : List UInt8) (s : Nat × Nat × Int) : St := ⟨tmps 104 [(2, .bool false), (3, .ptr 0 0), (4, .ptr 1 0), (5, .str z), (6, .ptr 2 0), (7, .int .i64 0), (8, .int .i64 s.2.2), (9, .int .i64 s.1)], [tapeO t s.2.1, .box [.int .i64 n, .imm (l.map sesR)], .box [.int .i64 n, .imm (l.map sesR)]]⟩
set_option maxHeartbeats 4000000 in
set_option maxRecDepth 20000 in
theorem Apart_c (t : List Int) : ACalls Tryd.prog 8 [tapeA t] [] (.bool true) [] := by
  refine acalls_F c8_ok rfl ?_
  unfold c8 tapeA
  have kn : ∀ (H : List AObj) (K : List AObj → AV → Prop) (u : TagOf K), K H (.bool true) → callE Tryd.prog 15 [] H K u := fun H K u hK => callE_pure known_c rfl rfl hK
  have knD : ∀ (H : List AObj) (K : SK) (u : TagOf K), K [] [] (.bool true) → callDE Tryd.prog 15 [] H K u := fun H K u hK => callDE_pure known_c rfl rfl hK
  simp +decide -dsimp -implicitDefEqProofs [go_sem]
  obtain ⟨av, H', ⟨n, l, k, hm, hl, hn, hk, rfl, rfl⟩, hS⟩ := Sessions_c t 0 (by omega)
  refine callE_frame [0] hS rfl rfl (by simp) (by simp [go_sem]) (by simp [tape0_at]) ?_
  have hm1 := hm.n1
  have hlt : l.length < 1000000000 := by omega
  simp +decide -dsimp -implicitDefEqProofs [go_sem, ssV]
  refine callE_frame [0] (One_c t k [seat0, seat1] (by omega) (by simp) (by simp)) rfl rfl (by simp) rfl (by simp [tapeO_ren]) ?_
  have hz : oneS [seat0, seat1] (tapeV t k) ∈ [seat0, seat1, seat2] := by
    have := oneS_mem (tapeV t k) (show [seat0, seat1] ≠ [] by simp)
    simp only [List.mem_cons, List.mem_nil_iff, or_false] at this ⊢
    rcases this with h | h <;> simp [h]
  generalize oneS [seat0, seat1] (tapeV t k) = z at hz
  simp +decide -dsimp -implicitDefEqProofs [go_sem]
  refine callE_frame [0] (Next_c t (k + 1) 4 (by omega) (by omega)) rfl rfl (by simp) (by simp [go_sem]) (by simp [tapeO_ren]) ?_
  have bv := fold_bd (tapeV t (k + 1)) 4 (by omega)
  generalize fold (tapeV t (k + 1)) 4 = v at bv
  by_cases c0 : v = 0
  · simp +decide -dsimp -implicitDefEqProofs [go_sem, c0]
    have hc := Open_c n l [101, 118, 101] z [z] hlt (by simp) (by omega)
    rcases openG_split (decide ((ofS l z).length = 0)) n l [101, 118, 101] z [z] with ⟨er, he1, _, he2⟩ | ⟨he, g1, g2, g3, g4⟩
    · rw [he2] at hc
      simp only [ssV, sesL, strsV, List.map_cons, List.map_nil] at hc
      refine callE_pure hc (by simp [go_sem]) (by simp [go_sem]) ?_
      simp +decide -dsimp -implicitDefEqProofs [go_sem, he1]
      refine kn _ _ _ ?_
      simp +decide -dsimp -implicitDefEqProofs [go_sem]
    · rw [he] at hc
      have hE : ((l ++ ([⟨n, [101, 118, 101], z, decide ((ofS l z).length = 0)⟩] : List Ses)).filter fun x => x.seat != z) = l.filter fun x => x.seat != z := by rw [List.filter_append]; simp
      have hlp : (l ++ ([⟨n, [101, 118, 101], z, decide ((ofS l z).length = 0)⟩] : List Ses)).length < 1000000000 := by simp; omega
      generalize l ++ ([⟨n, [101, 118, 101], z, decide ((ofS l z).length = 0)⟩] : List Ses) = l' at hc hE hlp
      simp only [ssV, sesL, strsV, List.map_cons, List.map_nil] at hc
      refine callE_pure hc (by simp [go_sem]) (by simp [go_sem]) ?_
      simp +decide -dsimp -implicitDefEqProofs [go_sem]
      have d1 := elsewhere_c n l z hlt
      have d2 := elsewhere_c (n + 1) l' z hlp
      rw [hE] at d2
      have d3 := Same_c 0 0 (l.filter fun x => x.seat != z) (l.filter fun x => x.seat != z) (by have := List.length_filter_le (fun x : Ses => x.seat != z) l; omega) (by have := List.length_filter_le (fun x : Ses => x.seat != z) l; omega)
      generalize (l.filter fun x => x.seat != z) = le at d1 d2 d3
      simp only [ssV, sesL] at d1 d2 d3
      refine callDE_pure d1 (by simp [go_sem]) (by simp [go_sem]) ?_
      simp +decide -dsimp -implicitDefEqProofs [go_sem]
      refine callDE_pure d2 (by simp [go_sem]) (by simp [go_sem]) ?_
      simp +decide -dsimp -implicitDefEqProofs [go_sem]
      refine callDE_pure d3 (by simp [go_sem]) rfl ?_
      simp +decide -dsimp -implicitDefEqProofs [go_sem]
      refine knD _ _ _ ?_
      simp +decide -dsimp -implicitDefEqProofs [go_sem]
  by_cases c1 : v = 1
  · simp +decide -dsimp -implicitDefEqProofs [go_sem, c1]
    have hc := Switch_c n l z hlt
    rw [switchS_R] at hc
    cases e : switchR l z with
    | none =>
      rw [e] at hc
      simp only [resV3, ssV, sesL] at hc
      refine callE_pure hc (by simp [go_sem]) (by simp [go_sem]) ?_
      simp +decide -dsimp -implicitDefEqProofs [go_sem]
      refine kn _ _ _ ?_
      simp +decide -dsimp -implicitDefEqProofs [go_sem]
    | some p =>
      obtain ⟨l', i⟩ := p
      rw [e] at hc
      have hE := elsewhere_switch e
      have hlp : l'.length < 1000000000 := by have := switchR_len e; omega
      simp only [resV3, ssV, sesL] at hc
      refine callE_pure hc (by simp [go_sem]) (by simp [go_sem]) ?_
      simp +decide -dsimp -implicitDefEqProofs [go_sem]
      have d1 := elsewhere_c n l z hlt
      have d2 := elsewhere_c n l' z hlp
      rw [hE] at d2
      have d3 := Same_c 0 0 (l.filter fun x => x.seat != z) (l.filter fun x => x.seat != z) (by have := List.length_filter_le (fun x : Ses => x.seat != z) l; omega) (by have := List.length_filter_le (fun x : Ses => x.seat != z) l; omega)
      generalize (l.filter fun x => x.seat != z) = le at d1 d2 d3
      simp only [ssV, sesL] at d1 d2 d3
      refine callDE_pure d1 (by simp [go_sem]) (by simp [go_sem]) ?_
      simp +decide -dsimp -implicitDefEqProofs [go_sem]
      refine callDE_pure d2 (by simp [go_sem]) (by simp [go_sem]) ?_
      simp +decide -dsimp -implicitDefEqProofs [go_sem]
      refine callDE_pure d3 (by simp [go_sem]) rfl ?_
      simp +decide -dsimp -implicitDefEqProofs [go_sem]
      refine knD _ _ _ ?_
      simp +decide -dsimp -implicitDefEqProofs [go_sem]
  have c23 : v = 2 ∨ v = 3 := by omega
  by_cases c2 : v = 2
  simp +decide -dsimp -implicitDefEqProofs [go_sem, c2]
  rotate_left
  have c3 : v = 3 := by omega
  simp +decide -dsimp -implicitDefEqProofs [go_sem, c3]
  all_goals
    refine loop_of (S := Nat × Nat × Int) (stA t n l z) (fun s => l.length - s.1) (fun s => s.1 ≤ l.length ∧ s.2.1 ≤ k + 2 + s.1 ∧ ∀ x ∈ l, x.id = s.2.2 → x.seat = z) (0, k + 1 + 1, 0) ⟨by simp, by simp only; omega, fun x hx h0 => by have := (hm.lo x hx).1; simp only at h0; omega⟩ (cut_of (by simp) ?_) ?_
    · simp +decide -dsimp -implicitDefEqProofs [go_sem, tapeO]
    rintro ⟨i, q, id⟩ ⟨hi, hq, hid⟩
    simp only at hi hq hid
    unfold stA
    by_cases h : i < l.length
    · have h' : (i : Int) < l.length := by omega
      have w : IntKind.i64.wrap ((i : Int) + 1) = i + 1 := w64 (by omega) (by omega)
      by_cases g1 : l[i].seat = z
      · have hnew : ∀ x ∈ l, x.id = l[i].id → x.seat = z := fun x hx e => by rw [ids_eq hm.ids hx (List.getElem_mem h) e]; exact g1
        by_cases g2 : id = 0
        · simp +decide -dsimp -implicitDefEqProofs [go_sem, h, h', sesR, g1, g2, w]
          refine next_of (i + 1, q, l[i].id) ⟨by simp only; omega, by simp only; omega, hnew⟩ (by simp only; omega) (cut_of (by simp) ?_)
          simp +decide -dsimp -implicitDefEqProofs [go_sem, tapeO]
        · simp +decide -dsimp -implicitDefEqProofs [go_sem, h, h', sesR, g1, g2]
          refine callE_frame [0] (Next_c t q 2 (by omega) (by omega)) rfl rfl (by simp) (by simp [go_sem]) (by simp [tapeO_ren]) ?_
          by_cases g3 : fold (tapeV t q) 2 = 0
          · simp +decide -dsimp -implicitDefEqProofs [go_sem, h, sesR, g1, g2, g3, w]
            refine next_of (i + 1, q + 1, l[i].id) ⟨by simp only; omega, by simp only; omega, hnew⟩ (by simp only; omega) (cut_of (by simp) ?_)
            simp +decide -dsimp -implicitDefEqProofs [go_sem, tapeO]
          · simp +decide -dsimp -implicitDefEqProofs [go_sem, g2, g3, w]
            refine next_of (i + 1, q + 1, id) ⟨by simp only; omega, by simp only; omega, hid⟩ (by simp only; omega) (cut_of (by simp) ?_)
            simp +decide -dsimp -implicitDefEqProofs [go_sem, tapeO]
      · simp +decide -dsimp -implicitDefEqProofs [go_sem, h, h', sesR, g1, w]
        refine next_of (i + 1, q, id) ⟨by simp only; omega, by simp only; omega, hid⟩ (by simp only; omega) (cut_of (by simp) ?_)
        simp +decide -dsimp -implicitDefEqProofs [go_sem, tapeO]
    · have e : i = l.length := by omega
      subst e
      simp +decide -dsimp -implicitDefEqProofs [go_sem]
      refine callE_frame [0] (Next_c t q 2 (by omega) (by omega)) rfl rfl (by simp) (by simp [go_sem]) (by simp [tapeO_ren]) ?_
      by_cases g4 : fold (tapeV t q) 2 = 0
      · simp +decide -dsimp -implicitDefEqProofs [go_sem, g4]
        have hc := Close_c n l id hlt
        rw [closeS_R] at hc
        cases e : closeR l id with
        | none =>
          rw [e] at hc
          simp only [resV, errV, ssV, sesL] at hc
          refine callE_pure hc (by simp [go_sem]) (by simp [go_sem]) ?_
          simp +decide -dsimp -implicitDefEqProofs [go_sem]
          refine kn _ _ _ ?_
          simp +decide -dsimp -implicitDefEqProofs [go_sem]
        | some l' =>
          rw [e] at hc
          have hE := elsewhere_close hm hid e
          have hlp : l'.length < 1000000000 := by have := closeR_len e; omega
          simp only [resV, okV, ssV, sesL] at hc
          refine callE_pure hc (by simp [go_sem]) (by simp [go_sem]) ?_
          simp +decide -dsimp -implicitDefEqProofs [go_sem]
          have d1 := elsewhere_c n l z hlt
          have d2 := elsewhere_c n l' z hlp
          rw [hE] at d2
          have d3 := Same_c 0 0 (l.filter fun x => x.seat != z) (l.filter fun x => x.seat != z) (by have := List.length_filter_le (fun x : Ses => x.seat != z) l; omega) (by have := List.length_filter_le (fun x : Ses => x.seat != z) l; omega)
          generalize (l.filter fun x => x.seat != z) = le at d1 d2 d3
          simp only [ssV, sesL] at d1 d2 d3
          refine callDE_pure d1 (by simp [go_sem]) (by simp [go_sem]) ?_
          simp +decide -dsimp -implicitDefEqProofs [go_sem]
          refine callDE_pure d2 (by simp [go_sem]) (by simp [go_sem]) ?_
          simp +decide -dsimp -implicitDefEqProofs [go_sem]
          refine callDE_pure d3 (by simp [go_sem]) rfl ?_
          simp +decide -dsimp -implicitDefEqProofs [go_sem]
          refine knD _ _ _ ?_
          simp +decide -dsimp -implicitDefEqProofs [go_sem]
      · simp +decide -dsimp -implicitDefEqProofs [go_sem, g4]
        have hc := Activate_c n l id hlt
        rw [actS_R] at hc
        cases e : actR l id with
        | none =>
          rw [e] at hc
          simp only [resV, errV, ssV, sesL] at hc
          refine callE_pure hc (by simp [go_sem]) (by simp [go_sem]) ?_
          simp +decide -dsimp -implicitDefEqProofs [go_sem]
          refine kn _ _ _ ?_
          simp +decide -dsimp -implicitDefEqProofs [go_sem]
        | some l' =>
          rw [e] at hc
          have hE := elsewhere_act hid e
          have hlp : l'.length < 1000000000 := by have := actR_len e; omega
          simp only [resV, okV, ssV, sesL] at hc
          refine callE_pure hc (by simp [go_sem]) (by simp [go_sem]) ?_
          simp +decide -dsimp -implicitDefEqProofs [go_sem]
          have d1 := elsewhere_c n l z hlt
          have d2 := elsewhere_c n l' z hlp
          rw [hE] at d2
          have d3 := Same_c 0 0 (l.filter fun x => x.seat != z) (l.filter fun x => x.seat != z) (by have := List.length_filter_le (fun x : Ses => x.seat != z) l; omega) (by have := List.length_filter_le (fun x : Ses => x.seat != z) l; omega)
          generalize (l.filter fun x => x.seat != z) = le at d1 d2 d3
          simp only [ssV, sesL] at d1 d2 d3
          refine callDE_pure d1 (by simp [go_sem]) (by simp [go_sem]) ?_
          simp +decide -dsimp -implicitDefEqProofs [go_sem]
          refine callDE_pure d2 (by simp [go_sem]) (by simp [go_sem]) ?_
          simp +decide -dsimp -implicitDefEqProofs [go_sem]
          refine callDE_pure d3 (by simp [go_sem]) rfl ?_
          simp +decide -dsimp -implicitDefEqProofs [go_sem]
          refine knD _ _ _ ?_
          simp +decide -dsimp -implicitDefEqProofs [go_sem]
end Go.Ab
