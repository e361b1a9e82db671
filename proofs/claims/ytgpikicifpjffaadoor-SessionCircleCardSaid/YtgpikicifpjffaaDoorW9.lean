/- A layer of abstract values over the model, and what is proved with it: part W9. -/
import Derived.Test.YtgpikicifpjffaaDoorW7
namespace Go.Ab
open Go Go.Proofs
/-- Numbers as a map. -/
def intKvs (ss : List Int) : List (AV × AV) := ss.map fun s => (.int .i64 s, .bool true)
theorem intKvs_keys (s : Int) (ss : List Int) : keysOk (.int .i64) (.int .i64 s) (intKvs ss) := by
  refine ⟨by simp [keyOk], fun p hp => ?_⟩
  simp only [intKvs, List.mem_map] at hp
  obtain ⟨x, _, rfl⟩ := hp; simp [keyOk]
theorem keyB_int (s x : Int) : keyB (.int .i64 s) (.int .i64 x) = decide (s = x) := by by_cases h : s = x <;> simp [keyB, scalarEq, h]
theorem intKvs_find (s : Int) : ∀ ss : List Int, (findKv (.int .i64 s) (intKvs ss)).getD (.bool false) = .bool (decide (s ∈ ss))
  | [] => rfl
  | x :: r => by
    simp only [intKvs, List.map_cons, findKv, keyB_int]
    by_cases h : s = x
    · simp [h]
    · simp only [h, decide_false, Bool.false_eq_true, if_false]; rw [← intKvs, intKvs_find s r]; simp [h]
theorem intKvs_set (s : Int) : ∀ ss : List Int, s ∉ ss → setKv (.int .i64 s) (.bool true) (intKvs ss) = intKvs (ss ++ [s])
  | [], _ => rfl
  | x :: r, hn => by
    simp only [List.mem_cons, not_or] at hn
    simp only [intKvs, List.map_cons, setKv, keyB_int, List.cons_append]
    simp only [hn.1, decide_false, Bool.false_eq_true, if_false]; rw [← intKvs, intKvs_set s r hn.2, intKvs]
theorem intKvs_closed (m : Nat) (ss : List Int) : ((intKvs ss).all fun p => closed m p.1 && closed m p.2) = true := by
  simp [intKvs, closed]

theorem ofS_turn (l : List Ses) (s : List UInt8) (i : Int) : ofS (l.map (turnS s i)) s = (ofS l s).map (turnS s i) := by
  unfold ofS
  rw [List.filter_map]
  congr 1
  refine List.filter_congr fun x _ => ?_
  simp [Function.comp]
theorem switch_step {n : Int} {l : List Ses} {s : List UInt8} (h : Made n l) {i : Nat} (hi : i < (ofS l s).length) (hm : (i + 1) % (ofS l s).length < (ofS l s).length) :
    switchR (l.map (turnS s (ofS l s)[i].id)) s = some (l.map (turnS s (ofS l s)[(i + 1) % (ofS l s).length].id), (ofS l s)[(i + 1) % (ofS l s).length].id) := by
  have hmem := ofS_mem.1 (List.getElem_mem hi)
  have hM : Made n (l.map (turnS s (ofS l s)[i].id)) := (h.semi s).turn fun x _ _ => ⟨_, hmem.1, hmem.2, rfl⟩
  have ho := ofS_turn l s (ofS l s)[i].id
  have hl : (ofS (l.map (turnS s (ofS l s)[i].id)) s).length = (ofS l s).length := by rw [ho]; simp
  have hf : (ofS (l.map (turnS s (ofS l s)[i].id)) s).findIdx? (·.act) = some i := by
    rw [ho, List.findIdx?_eq_some_iff_getElem]
    refine ⟨by simpa using hi, ?_, fun j hj => ?_⟩
    · rw [List.getElem_map, turnS_act_of hmem.2]; simp
    · have hj2 : j < (ofS l s).length := by omega
      rw [List.getElem_map, turnS_act_of (ofS_mem.1 (List.getElem_mem hj2)).2]
      intro e
      have := ids_inj (h.ofS_ids s) hj2 hi (by simpa using e)
      omega
  obtain ⟨hm2, e⟩ := switchR_at hM (by rw [hl]; exact hi) hf
  rw [e]
  have e1 : (ofS (l.map (turnS s (ofS l s)[i].id)) s)[(i + 1) % (ofS (l.map (turnS s (ofS l s)[i].id)) s).length].id = (ofS l s)[(i + 1) % (ofS l s).length].id := by
    have : ∀ (L : List Ses) (hL : L = (ofS l s).map (turnS s (ofS l s)[i].id)) (hq : (i + 1) % L.length < L.length), L[(i + 1) % L.length].id = (ofS l s)[(i + 1) % (ofS l s).length].id := by
      intro L hL hq
      subst hL
      simp
    exact this _ ho hm2
  rw [e1, turn_turn]
theorem mod_lt_ne {a b m : Nat} (h1 : a < b) (h2 : b < a + m) : a % m ≠ b % m := by
  intro e
  have h3 := Nat.div_add_mod a m
  have h4 := Nat.div_add_mod b m
  rw [e] at h3
  rcases Nat.lt_trichotomy (a / m) (b / m) with h | h | h
  · have := Nat.mul_le_mul_left m (show a / m + 1 ≤ b / m from h)
    rw [Nat.mul_add, Nat.mul_one] at this
    omega
  · rw [h] at h3; omega
  · have := Nat.mul_le_mul_left m (show b / m ≤ a / m by omega)
    omega

def stC1 (t : List Int) (q : Nat) (n : Int) (l : List Ses) (z : List UInt8) (s : Nat) : St := ⟨tmps 86 [(2, .bool false), (4, .ptr 1 0), (5, .str z), (6, .ptr 3 0), (7, .map 2), (8, .int .i64 (ofS (l.take s) z).length), (9, .int .i64 s)], [tapeO t q, .box [.int .i64 n, .imm (l.map sesR)], .map [], .box [.int .i64 n, .imm (l.map sesR)]]⟩
def stC2 (t : List Int) (q : Nat) (n : Int) (l : List Ses) (z : List UInt8) (L : Nat → List Ses) (s : Nat × List Int) : St := ⟨tmps 86 [(2, .bool false), (4, .ptr 1 0), (5, .str z), (6, .ptr 3 0), (7, .map 2), (8, .int .i64 (ofS l z).length), (10, .int .i64 s.1)], [tapeO t q, .box [.int .i64 n, .imm (l.map sesR)], .map (intKvs s.2), .box [.int .i64 n, .imm ((L s.1).map sesR)]]⟩
set_option maxHeartbeats 8000000 in
set_option maxRecDepth 20000 in
theorem Circle_c (t : List Int) : ACalls Tryd.prog 3 [tapeA t] [] (.bool true) [] := by
  refine acalls_F c3_ok rfl ?_
  unfold c3 tapeA
  have kn : ∀ (H : List AObj) (K : List AObj → AV → Prop) (u : TagOf K), K H (.bool true) → callE Tryd.prog 15 [] H K u := fun H K u hK => callE_pure known_c rfl rfl hK
  simp +decide -dsimp -implicitDefEqProofs [go_sem]
  obtain ⟨av, H', ⟨n, l, k, hm, hl, hn, hk, rfl, rfl⟩, hS⟩ := Sessions_c t 0 (by omega)
  refine callE_frame [0] hS rfl rfl (by simp) (by simp [go_sem]) (by simp [tape0_at]) ?_
  have hm1 := hm.n1
  have hlt : l.length < 1000000000 := by omega
  simp +decide -dsimp -implicitDefEqProofs [go_sem, ssV]
  refine callE_frame [0] (One_c t k [seat0, seat1] (by omega) (by simp) (by simp)) rfl rfl (by simp) rfl (by simp [tapeO_ren]) ?_
  generalize oneS [seat0, seat1] (tapeV t k) = z
  simp +decide -dsimp -implicitDefEqProofs [go_sem]
  have hol : (ofS l z).length ≤ l.length := List.length_filter_le _ _
  refine loop_of (S := Nat) (stC1 t (k + 1) n l z) (fun s => l.length - s) (fun s => s ≤ l.length) 0 (by simp) (cut_of (by simp) ?_) ?_
  · simp +decide -dsimp -implicitDefEqProofs [go_sem, tapeO, ofS]
  intro i hi
  unfold stC1
  by_cases h : i < l.length
  · have h' : (i : Int) < l.length := by omega
    have w : IntKind.i64.wrap ((i : Int) + 1) = i + 1 := w64 (by omega) (by omega)
    have hcl : (ofS (l.take i) z).length ≤ l.length := Nat.le_trans (List.length_filter_le _ _) (by simp; omega)
    have w2 : IntKind.i64.wrap (((ofS (l.take i) z).length : Int) + 1) = (ofS (l.take i) z).length + 1 := w64 (by omega) (by omega)
    have hf := filt_take (p := fun x : Ses => x.seat == z) h
    by_cases g : l[i].seat = z
    · have e : (ofS (l.take (i + 1)) z).length = (ofS (l.take i) z).length + 1 := by rw [ofS, hf]; simp [ofS, g]
      simp +decide -dsimp -implicitDefEqProofs [go_sem, h, h', sesR, g, w, w2]
      refine next_of (i + 1) (by omega) (by omega) (cut_of (by simp) ?_)
      simp +decide -dsimp -implicitDefEqProofs [go_sem, tapeO, e]
    · have e : (ofS (l.take (i + 1)) z).length = (ofS (l.take i) z).length := by rw [ofS, hf]; simp [ofS, g]
      simp +decide -dsimp -implicitDefEqProofs [go_sem, h, h', sesR, g, w]
      refine next_of (i + 1) (by omega) (by omega) (cut_of (by simp) ?_)
      simp +decide -dsimp -implicitDefEqProofs [go_sem, tapeO, e]
  have e : i = l.length := by omega
  subst e
  clear h hi
  simp +decide -dsimp -implicitDefEqProofs [go_sem]
  by_cases hne : ofS l z = []
  · have hs := Switch_c n l z hlt
    rw [switchS_R] at hs
    have e1 : switchR l z = none := by unfold switchR; rw [hne]; rfl
    rw [e1] at hs
    have c9 := Same_c n n l l hlt hlt
    simp only [resV3, ssV, sesL, List.map_nil] at hs c9
    refine loop_of (S := Nat) (fun s => stC2 t (k + 1) n l z (fun _ => l) (s, [])) (fun s => 0) (fun s => s = 0) 0 rfl (cut_of (by simp) ?_) ?_
    · simp +decide -dsimp -implicitDefEqProofs [go_sem, tapeO, intKvs, hne]
    intro s hs0
    subst hs0
    unfold stC2
    simp +decide -dsimp -implicitDefEqProofs [go_sem, hne]
    refine callE_pure hs (by simp [go_sem]) (by simp [go_sem]) ?_
    simp +decide -dsimp -implicitDefEqProofs [go_sem]
    refine callE_pure c9 (by simp [go_sem]) rfl ?_
    simp +decide -dsimp -implicitDefEqProofs [go_sem]
    refine kn _ _ _ ?_
    simp +decide -dsimp -implicitDefEqProofs [go_sem]
  obtain ⟨i0, hi0, _, ha0, _, hf0⟩ := act_idx hm hne
  have hmpos : 0 < (ofS l z).length := by omega
  have hmod : ∀ j : Nat, (i0 + j) % (ofS l z).length < (ofS l z).length := fun j => Nat.mod_lt _ hmpos
  obtain ⟨L, hL⟩ : ∃ L : Nat → List Ses, L = fun j => l.map (turnS z ((ofS l z)[(i0 + j) % (ofS l z).length]'(hmod j)).id) := ⟨_, rfl⟩
  have hmem0 := ofS_mem.1 (List.getElem_mem hi0)
  have hself : l.map (turnS z (ofS l z)[i0].id) = l := by
    have := turn_self hm hmem0.1 ha0
    rw [hmem0.2] at this; exact this
  have hL0 : L 0 = l := by
    rw [hL]
    have e : (i0 + 0) % (ofS l z).length = i0 := Nat.mod_eq_of_lt hi0
    simp only [e]; exact hself
  have hLm : L (ofS l z).length = l := by
    rw [hL]
    have e : (i0 + (ofS l z).length) % (ofS l z).length = i0 := by rw [Nat.add_mod_right]; exact Nat.mod_eq_of_lt hi0
    simp only [e]; exact hself
  have hstep : ∀ j : Nat, switchR (L j) z = some (L (j + 1), ((ofS l z)[(i0 + (j + 1)) % (ofS l z).length]'(hmod (j + 1))).id) := fun j => by
    rw [hL]
    have := switch_step hm (hmod j) (Nat.mod_lt _ hmpos)
    have e : ((i0 + j) % (ofS l z).length + 1) % (ofS l z).length = (i0 + (j + 1)) % (ofS l z).length := by rw [Nat.mod_add_mod]; rfl
    simp only [e] at this
    exact this
  have hLlen : ∀ j, (L j).length = l.length := fun j => by rw [hL]; simp
  refine loop_of (S := Nat × List Int) (stC2 t (k + 1) n l z L) (fun s => (ofS l z).length - s.1) (fun s => s.1 ≤ (ofS l z).length ∧ ∀ x ∈ s.2, ∃ p : Nat, 1 ≤ p ∧ p ≤ s.1 ∧ x = ((ofS l z)[(i0 + p) % (ofS l z).length]'(hmod p)).id) (0, []) ⟨by simp, by simp⟩ (cut_of (by simp) ?_) ?_
  · simp +decide -dsimp -implicitDefEqProofs [go_sem, tapeO, intKvs, hL0]
  rintro ⟨j, seen⟩ ⟨hj, hseen⟩
  simp only at hj hseen
  unfold stC2
  by_cases h : j < (ofS l z).length
  · have h' : (j : Int) < (ofS l z).length := by omega
    have w : IntKind.i64.wrap ((j : Int) + 1) = j + 1 := w64 (by omega) (by omega)
    have hs := Switch_c n (L j) z (by rw [hLlen]; exact hlt)
    rw [switchS_R, hstep j] at hs
    have hnew : ((ofS l z)[(i0 + (j + 1)) % (ofS l z).length]'(hmod (j + 1))).id ∉ seen := fun hx => by
      obtain ⟨p, hp1, hp2, hp3⟩ := hseen _ hx
      have := ids_inj (hm.ofS_ids z) (hmod (j + 1)) (hmod p) hp3
      exact mod_lt_ne (a := i0 + p) (b := i0 + (j + 1)) (by omega) (by omega) this.symm
    have hseen2 : ∀ x ∈ seen ++ [((ofS l z)[(i0 + (j + 1)) % (ofS l z).length]'(hmod (j + 1))).id], ∃ p : Nat, 1 ≤ p ∧ p ≤ j + 1 ∧ x = ((ofS l z)[(i0 + p) % (ofS l z).length]'(hmod p)).id := fun x hx => by
      rcases List.mem_append.1 hx with hx | hx
      · obtain ⟨p, hp1, hp2, hp3⟩ := hseen x hx
        exact ⟨p, hp1, by omega, hp3⟩
      · simp only [List.mem_singleton] at hx
        exact ⟨j + 1, by omega, by omega, hx⟩
    generalize ((ofS l z)[(i0 + (j + 1)) % (ofS l z).length]'(hmod (j + 1))).id = id at hs hnew hseen2
    simp only [resV3, ssV, sesL] at hs
    simp +decide -dsimp -implicitDefEqProofs [go_sem, h']
    refine callE_pure hs (by simp [go_sem]) (by simp [go_sem]) ?_
    have kset := intKvs_set id seen hnew
    simp +decide -dsimp -implicitDefEqProofs [go_sem, intKvs_keys, intKvs_find, hnew, kset, w]
    refine next_of (j + 1, seen ++ [id]) ⟨by simp only; omega, hseen2⟩ (by simp only; omega) (cut_of (by simp) ?_)
    simp +decide -dsimp -implicitDefEqProofs [go_sem, tapeO, intKvs_closed]
  · have e : j = (ofS l z).length := by omega
    subst e
    have hs := Switch_c n l z hlt
    have h1 := hstep 0
    rw [hL0] at h1
    rw [switchS_R, h1] at hs
    have c9 := Same_c n n l l hlt hlt
    generalize L (0 + 1) = l1 at hs
    generalize ((ofS l z)[(i0 + (0 + 1)) % (ofS l z).length]'(hmod (0 + 1))).id = id at hs
    simp only [resV3, ssV, sesL] at hs c9
    simp +decide -dsimp -implicitDefEqProofs [go_sem]
    refine callE_pure hs (by simp [go_sem]) (by simp [go_sem]) ?_
    simp +decide -dsimp -implicitDefEqProofs [go_sem, hLm]
    refine callE_pure c9 (by simp [go_sem]) rfl ?_
    have hne2 : ((ofS l z).length : Int) ≠ 0 := by omega
    simp +decide -dsimp -implicitDefEqProofs [go_sem, hne]
    refine kn _ _ _ ?_
    simp +decide -dsimp -implicitDefEqProofs [go_sem]
    exact hne
end Go.Ab
