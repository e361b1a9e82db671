/- A layer of abstract values over the model, and what is proved with it: part W4. -/
import Derived.Test.YtgpikicifpjffaaDoorW3
namespace Go.Ab
open Go Go.Proofs
theorem filter_at {l : List Ses} {p : Ses → Bool} {k : Nat} (h : k < l.length) (hp : p l[k] = true) : ∃ hi : ((l.take k).filter p).length < (l.filter p).length, (l.filter p)[((l.take k).filter p).length] = l[k] := by
  have e : l.filter p = (l.take k).filter p ++ l[k] :: (l.drop (k + 1)).filter p := by
    conv => lhs; rw [← List.take_append_drop k l, List.drop_eq_getElem_cons h, List.filter_append, List.filter_cons_of_pos hp]
  have hlt : ((l.take k).filter p).length < (l.filter p).length := by rw [e]; simp
  refine ⟨hlt, ?_⟩
  have : (l.filter p)[((l.take k).filter p).length]? = some l[k] := by rw [e]; simp
  rw [List.getElem?_eq_getElem hlt] at this
  exact Option.some.inj this

set_option maxHeartbeats 2000000 in
set_option maxRecDepth 20000 in
theorem Prunes_c (t : List Int) (more : List UInt8) : ACalls Tryd.prog 4 [tapeA t, .str more] [] (.bool true) [] := by
  refine acalls_F c4_ok rfl ?_
  unfold c4 tapeA
  have kn : ∀ (H : List AObj) (K : List AObj → AV → Prop) (u : TagOf K), K H (.bool true) → callE Tryd.prog 15 [] H K u := fun H K u hK => callE_pure known_c rfl rfl hK
  have knD : ∀ (H : List AObj) (K : SK) (u : TagOf K), K [] [] (.bool true) → callDE Tryd.prog 15 [] H K u := fun H K u hK => callDE_pure known_c rfl rfl hK
  by_cases h1 : (more.length : Int) > 100
  · simp +decide -dsimp -implicitDefEqProofs [go_sem, h1]
    refine kn _ _ _ ?_
    simp +decide -dsimp -implicitDefEqProofs [go_sem]
  simp +decide -dsimp -implicitDefEqProofs [go_sem, h1]
  obtain ⟨av, H', ⟨n, l, k, hm, hl, hn, hk, rfl, rfl⟩, hS⟩ := Sessions_c t 0 (by omega)
  refine callE_frame [0] hS rfl rfl (by simp) (by simp [go_sem]) (by simp [tape0_at]) ?_
  have hm1 := hm.n1
  simp +decide -dsimp -implicitDefEqProofs [go_sem, ssV]
  refine callE_frame [0] (One_c t k [seat0, seat1] (by omega) (by simp) (by simp)) rfl rfl (by simp) rfl (by simp [tapeO_ren]) ?_
  generalize oneS [seat0, seat1] (tapeV t k) = z
  simp +decide -dsimp -implicitDefEqProofs [go_sem]
  have hlt : l.length < 1000000000 := by omega
  have c1 := Prune_c n l [z, more] hlt (by simp)
  generalize hp : (fun x : Ses => decide (x.seat ∈ [z, more])) = p at c1
  have hpl : (l.filter p).length ≤ l.length := List.length_filter_le _ _
  have c2 := Prune_c n (l.filter p) [z, more] (by omega) (by simp)
  rw [hp, List.filter_filter] at c2
  simp only [Bool.and_self] at c2
  have c3 := Same_c n n (l.filter p) (l.filter p) (by omega) (by omega)
  simp only [ssV, sesL, strsV, List.map_cons, List.map_nil] at c1 c2 c3
  refine callE_pure c1 (by simp [go_sem]) (by simp [go_sem]) ?_
  simp +decide -dsimp -implicitDefEqProofs [go_sem]
  refine loop_of (S := Nat) (fun i => ⟨tmps 97 [(1, .str more), (4, .bool false), (6, .ptr 1 0), (7, .imm [[.str z], [.str more]]), (8, .ptr 2 0), (9, .int .i64 ((l.take i).filter p).length), (10, .int .i64 i)], [tapeO t (k + 1), .box [.int .i64 n, .imm (l.map sesR)], .box [.int .i64 n, .imm ((l.filter p).map sesR)]]⟩) (fun i => l.length - i) (fun i => i ≤ l.length) 0 (by simp) (cut_of (by simp) ?_) ?_
  · simp +decide -dsimp -implicitDefEqProofs [go_sem, tapeO]
  intro i hi
  by_cases h : i < l.length
  · have h' : (i : Int) < l.length := by omega
    have w : IntKind.i64.wrap ((i : Int) + 1) = i + 1 := w64 (by omega) (by omega)
    have hfl := filt_take (p := p) h
    have hpe : p l[i] = decide (l[i].seat ∈ [z, more]) := by rw [← hp]
    by_cases g1 : l[i].seat = z
    · have hpi : p l[i] = true := by rw [hpe, g1]; simp
      obtain ⟨hj, hje⟩ := filter_at h hpi
      rw [if_pos hpi] at hfl
      have hj' : ¬ (((l.take i).filter p).length : Int) ≥ (l.filter p).length := by omega
      have w2 : IntKind.i64.wrap ((((l.take i).filter p).length : Int) + 1) = ((l.take i).filter p).length + 1 := w64 (by omega) (by omega)
      simp +decide -dsimp -implicitDefEqProofs [go_sem, h, h', w, sesR, g1, hj, hj', hje, w2]
      refine next_of (i + 1) (by omega) (by omega) (cut_of (by simp) ?_)
      simp +decide -dsimp -implicitDefEqProofs [go_sem, hfl, tapeO]
    · by_cases g2 : l[i].seat = more
      · have hpi : p l[i] = true := by rw [hpe, g2]; simp
        obtain ⟨hj, hje⟩ := filter_at h hpi
        rw [if_pos hpi] at hfl
        have g3 : ¬ more = z := fun e => g1 (by rw [g2, e])
        have hj' : ¬ (((l.take i).filter p).length : Int) ≥ (l.filter p).length := by omega
        have w2 : IntKind.i64.wrap ((((l.take i).filter p).length : Int) + 1) = ((l.take i).filter p).length + 1 := w64 (by omega) (by omega)
        simp +decide -dsimp -implicitDefEqProofs [go_sem, h, h', w, sesR, g3, g2, hj, hj', hje, w2]
        refine next_of (i + 1) (by omega) (by omega) (cut_of (by simp) ?_)
        simp +decide -dsimp -implicitDefEqProofs [go_sem, hfl, tapeO]
      · have hpi : p l[i] = false := by rw [hpe]; simp [g1, g2]
        rw [if_neg (by simp [hpi])] at hfl
        simp +decide -dsimp -implicitDefEqProofs [go_sem, h, h', w, sesR, g1, g2]
        refine next_of (i + 1) (by omega) (by omega) (cut_of (by simp) ?_)
        simp +decide -dsimp -implicitDefEqProofs [go_sem, hfl, tapeO]
  · have e : i = l.length := by omega
    subst e
    simp +decide -dsimp -implicitDefEqProofs [go_sem]
    refine callDE_pure c2 (by simp [go_sem]) (by simp [go_sem]) ?_
    simp +decide -dsimp -implicitDefEqProofs [go_sem]
    refine callDE_pure c3 (by simp [go_sem]) rfl ?_
    simp +decide -dsimp -implicitDefEqProofs [go_sem]
    refine knD _ _ _ ?_
    simp +decide -dsimp -implicitDefEqProofs [go_sem]
end Go.Ab
namespace Go.Ab
open Go Go.Proofs
def switchR (l : List Ses) (s : List UInt8) : Option (List Ses × Int) := match (ofS l s)[((match (ofS l s).findIdx? (·.act) with | some i => i + 1 | none => 0) % (ofS l s).length)]? with
  | some x => some (l.map (turnS s x.id), x.id)
  | none => none
def resV3 (n : Int) : Option (List Ses × Int) → AV
  | some (l, i) => .tup [ssV n l, .int .i64 i, .int .i64 0]
  | none => .tup [ssV 0 [], .int .i64 0, .int .i64 373]
theorem switchS_R (n : Int) (l : List Ses) (s : List UInt8) : switchS n l s = resV3 n (switchR l s) := by
  unfold switchS switchR
  have e : (match (ofS l s).findIdx? (·.act) with | some i => i + 1 | none => 0) % (ofS l s).length = (match (ofS l s).findIdx? (·.act) with | some i => i + 1 | none => 0) % (ofS l s).length := rfl
  generalize (ofS l s)[((match (ofS l s).findIdx? (·.act) with | some i => i + 1 | none => 0) % (ofS l s).length)]? = o
  cases o <;> rfl

theorem act_idx {n : Int} {l : List Ses} {s : List UInt8} (h : Made n l) (hne : ofS l s ≠ []) : ∃ (i0 : Nat) (hi : i0 < (ofS l s).length), actIn l s = [(ofS l s)[i0]] ∧ (ofS l s)[i0].act = true ∧ (∀ (j : Nat) (hj : j < (ofS l s).length), (ofS l s)[j].act = true → j = i0) ∧ (ofS l s).findIdx? (·.act) = some i0 := by
  obtain ⟨x, hx⟩ := List.exists_mem_of_ne_nil _ hne
  obtain ⟨hx1, hx2⟩ := ofS_mem.1 hx
  have h1 := h.act x hx1
  rw [hx2] at h1
  obtain ⟨z, hz⟩ := List.length_eq_one_iff.1 h1
  have hzm : z ∈ (ofS l s).filter (·.act) := by rw [ofS_act, hz]; simp
  obtain ⟨hz1, hz2⟩ := List.mem_filter.1 hzm
  obtain ⟨i0, hi, rfl⟩ := List.getElem_of_mem hz1
  have uniq : ∀ (j : Nat) (hj : j < (ofS l s).length), (ofS l s)[j].act = true → j = i0 := fun j hj ha => by
    have : (ofS l s)[j] ∈ (ofS l s).filter (·.act) := List.mem_filter.2 ⟨List.getElem_mem hj, ha⟩
    rw [ofS_act, hz] at this
    simp only [List.mem_singleton] at this
    exact ids_inj (h.ofS_ids s) hj hi (by rw [this])
  refine ⟨i0, hi, hz, hz2, uniq, ?_⟩
  rw [List.findIdx?_eq_some_iff_getElem]
  exact ⟨hi, hz2, fun j hj => by
    intro ha
    have := uniq j (by omega) ha
    omega⟩

theorem find_gt {o : List Ses} (hp : o.Pairwise fun x y => x.id < y.id) {i : Nat} (hi : i < o.length) : o.find? (fun x => decide (x.id > o[i].id)) = o[i + 1]? := by
  rw [List.pairwise_iff_getElem] at hp
  by_cases h : i + 1 < o.length
  · rw [List.getElem?_eq_getElem h, List.find?_eq_some_iff_getElem]
    refine ⟨by simpa using hp i (i + 1) hi h (by omega), i + 1, h, rfl, fun j hj => ?_⟩
    rcases Nat.lt_or_ge j i with h1 | h1
    · have := hp j i (by omega) hi h1
      simp; omega
    · have : j = i := by omega
      subst this; simp
  · rw [List.getElem?_eq_none (by omega), List.find?_eq_none]
    intro x hx
    obtain ⟨j, hj, rfl⟩ := List.getElem_of_mem hx
    rcases Nat.lt_or_ge j i with h1 | h1
    · have := hp j i hj hi h1
      simp; omega
    · have : j = i := by omega
      subst this; simp

/-- Which session is the next one. -/
theorem switchR_at {n : Int} {l : List Ses} {s : List UInt8} (_h : Made n l) {i0 : Nat} (hi : i0 < (ofS l s).length) (hf : (ofS l s).findIdx? (·.act) = some i0) :
    ∃ hm : (i0 + 1) % (ofS l s).length < (ofS l s).length, switchR l s = some (l.map (turnS s (ofS l s)[(i0 + 1) % (ofS l s).length].id), (ofS l s)[(i0 + 1) % (ofS l s).length].id) := by
  have hm : (i0 + 1) % (ofS l s).length < (ofS l s).length := Nat.mod_lt _ (by omega)
  refine ⟨hm, ?_⟩
  unfold switchR
  simp only [hf, List.getElem?_eq_getElem hm]

theorem leastS_head {l : List Ses} {s : List UInt8} (h : ∀ x ∈ l, 1 ≤ x.id) (hne : 0 < (ofS l s).length) : leastS l s 0 = (ofS l s)[0].id := by
  rw [leastS_zero h]
  revert hne
  cases ofS l s with
  | nil => intro h; simp at h
  | cons x r => intro _; rfl
theorem switch_same {n : Int} {l : List Ses} (h : Made n l) (s : List UInt8) : rSwitchS n l s = resV3 n (switchR l s) := by
  have hact : l.filter (actP s) = actIn l s := rfl
  by_cases hne : ofS l s = []
  · have h1 : actIn l s = [] := by rw [← ofS_act, hne]; rfl
    have h2 : nowS l s = 0 := by unfold nowS; rw [hact, h1]; rfl
    unfold rSwitchS switchR
    simp only [h2, if_true, hne]
    rfl
  · obtain ⟨i0, hi, h1, h2, h3, h4⟩ := act_idx h hne
    obtain ⟨hm, h5⟩ := switchR_at h hi h4
    have hnow : nowS l s = (ofS l s)[i0].id := by unfold nowS; rw [hact, h1]; rfl
    have hlo : ∀ x ∈ ofS l s, 1 ≤ x.id := fun x hx => (h.lo x (ofS_mem.1 hx).1).1
    have hpos := hlo _ (List.getElem_mem hi)
    have hl2 := leastS_of l s (ofS l s)[i0].id
    rw [find_gt (h.ofS_ids s) hi] at hl2
    unfold rSwitchS
    rw [hnow, if_neg (by omega), h5]
    by_cases hlt : i0 + 1 < (ofS l s).length
    · rw [List.getElem?_eq_getElem hlt] at hl2
      simp only at hl2
      have hp2 := hlo _ (List.getElem_mem hlt)
      have e : (i0 + 1) % (ofS l s).length = i0 + 1 := Nat.mod_eq_of_lt hlt
      rw [hl2, if_neg (by omega)]
      simp only [e]; rfl
    · rw [List.getElem?_eq_none (by omega)] at hl2
      simp only at hl2
      have e : (i0 + 1) % (ofS l s).length = 0 := by rw [show i0 + 1 = (ofS l s).length by omega]; exact Nat.mod_self _
      have hz : leastS l s 0 = (ofS l s)[0].id := leastS_head (fun x hx => (h.lo x hx).1) (by omega)
      rw [hl2, if_pos rfl, hz]
      simp only [e]; rfl
theorem Made.switch {n : Int} {l l' : List Ses} {s : List UInt8} {i : Int} (h : Made n l) (hc : switchR l s = some (l', i)) : Made n l' := by
  unfold switchR at hc
  split at hc
  · rename_i x hx
    simp only [Option.some.injEq, Prod.mk.injEq] at hc
    obtain ⟨rfl, rfl⟩ := hc
    have := ofS_mem.1 (List.mem_of_getElem? hx)
    exact (h.semi s).turn fun y _ _ => ⟨x, this.1, this.2, rfl⟩
  · cases hc

def userS (l : List Ses) (s : List UInt8) : List UInt8 := match l.find? (actP s) with | some x => x.user | none => []
theorem User_u (n : Int) (l : List Ses) (s : List UInt8) (hl : l.length < 1000000000) : ACalls Tryd.prog 27 [ssV n l, .str s] [] (.str (userS l s)) [] := by
  have h := User_c n l s hl
  have e : (ofS l s).find? (·.act) = l.find? (actP s) := by
    unfold ofS; rw [List.find?_filter]; congr 1; funext x; unfold actP; by_cases h : x.seat = s <;> simp [h]
  rw [e] at h
  exact h
theorem rUser_u (n : Int) (l : List Ses) (s : List UInt8) (hl : l.length < 1000000000) : ACalls Tryd.prog 32 [ssV n l, .str s] [] (.str (userS l s)) [] := rUser_c n l s hl
theorem map_len (l : List Ses) (s : List UInt8) (i : Int) : (l.map (turnS s i)).length = l.length := by simp
theorem closeR_len {l l' : List Ses} {i : Int} (h : closeR l i = some l') : l'.length ≤ l.length := by
  unfold closeR at h
  split at h
  · split at h <;> cases h
    · simp only [List.length_map]; exact List.length_filter_le _ _
    · exact List.length_filter_le _ _
  · cases h
theorem actR_len {l l' : List Ses} {i : Int} (h : actR l i = some l') : l'.length = l.length := by
  unfold actR at h; split at h <;> cases h; simp
theorem switchR_len {l l' : List Ses} {s : List UInt8} {i : Int} (h : switchR l s = some (l', i)) : l'.length = l.length := by
  unfold switchR at h; split at h
  · simp only [Option.some.injEq, Prod.mk.injEq] at h; rw [← h.1]; simp
  · cases h
end Go.Ab
