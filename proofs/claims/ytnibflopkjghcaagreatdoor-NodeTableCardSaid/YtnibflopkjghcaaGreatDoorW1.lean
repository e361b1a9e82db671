/- Contracts of the library's, as contracts of abstract values. -/
import Derived.Test.YtnibflopkjghcaaGreatDoorC1
import Derived.Test.YtnibflopkjghcaaGreatDoorC2
import Derived.Below
import Derived.Lib.SplitLaws
import Derived.Lib.ItoaNum
import Derived.Sort.Walk0
import Derived.Sort.LotA
import Derived.Test.YtnibflopkjghcaaGreatDoorA5
namespace Go.Ab
open Go Go.Proofs

theorem of_same {f : Nat} {xs : List AV} {av : AV} (hb : bodied Tryz.prog f = true) (h : ∀ (c : Cx) (vs : List Value), Vals c xs vs → Glob.ok c.w → ∃ v, (Calls Tryz.prog f vs.toArray c.w fun e w' => e = .returned v ∧ w' = c.w) ∧ ∀ c', Val c' av v) : ACalls Tryz.prog f xs [] av [] :=
  ACalls.of_below hb fun c vs hv hg => by
    obtain ⟨v, h1, h2⟩ := h c vs hv hg
    refine h1.mono fun e w' hq => ?_
    obtain ⟨rfl, rfl⟩ := hq
    exact ⟨v, rfl, Go.RowKit.Below.refl _ _, h2⟩

end Go.Ab
namespace Go.Ab
open Go Go.Proofs
def fold (v n : Int) : Int := if n ≤ 1 then 0 else if v.tmod n < 0 then v.tmod n + n else v.tmod n

theorem tmod_bd (v n : Int) (h : 1 < n) : -n < v.tmod n ∧ v.tmod n < n := by
  rw [tmod_eq_if]
  have h1 := Int.emod_nonneg v (b := n) (by omega)
  have h2 := Int.emod_lt_of_pos v (b := n) (by omega)
  have h3 := Int.emod_nonneg (-v) (b := n) (by omega)
  have h4 := Int.emod_lt_of_pos (-v) (b := n) (by omega)
  split <;> omega

theorem Fold_c (v n : Int) (hn : n ≤ 9223372036854775807) : ACalls Tryz.prog 28 [.int .i64 v, .int .i64 n] [] (.int .i64 (fold v n)) [] := by
  refine acalls_F c28_ok rfl ?_
  unfold c28
  simp only [fold]
  by_cases h1 : n ≤ 1
  · simp -dsimp -implicitDefEqProofs [go_sem, h1]
  have hb := tmod_bd v n (by omega)
  by_cases h2 : v.tmod n < 0
  · simp -dsimp -implicitDefEqProofs [go_sem, h1, h2, w64 (n := v.tmod n + n) (by omega) (by omega)]; omega
  · simp -dsimp -implicitDefEqProofs [go_sem, h1, h2]; omega

/-- The tape: its numbers and its place. -/
def tapeO (l : List Int) (at_ : Nat) : AObj := .box 25 [.imm (l.map fun v => [.int .i64 v]), .int .i64 at_]
def tapeV (l : List Int) (at_ : Nat) : Int := if h : at_ < l.length then l[at_] else ((at_ : Int) * 7).tmod 11

set_option maxRecDepth 20000 in
theorem Next_c (l : List Int) (k : Nat) (n : Int) (hk : k < 1000000000) (hn : n ≤ 9223372036854775807) :
    ACalls Tryz.prog 36 [.ptr 0 0, .int .i64 n] [tapeO l k] (.int .i64 (fold (tapeV l k) n)) [tapeO l (k + 1)] := by
  refine acalls_F c36_ok rfl ?_
  unfold c36 tapeO tapeV
  have w1 : IntKind.i64.wrap (↑k * 7) = ↑k * 7 := w64 (by omega) (by omega)
  have w2 : IntKind.i64.wrap (↑k + 1) = ↑k + 1 := w64 (by omega) (by omega)
  by_cases h : k < l.length
  · simp +decide -dsimp -implicitDefEqProofs [go_sem, h, w1, w2]
    refine callE_pure (Fold_c _ _ hn) (by simp [closedL, closed]) rfl ?_
    simp +decide -dsimp -implicitDefEqProofs [go_sem, closedLL_map]
  · simp +decide -dsimp -implicitDefEqProofs [go_sem, h, w1, w2]
    refine callE_pure (Fold_c _ _ hn) (by simp [closedL, closed]) rfl ?_
    simp +decide -dsimp -implicitDefEqProofs [go_sem, closedLL_map]
end Go.Ab
namespace Go.Ab
open Go Go.Proofs
def bB (bs : List Bool) : List AV := bs.map .bool
theorem bB_len (bs : List Bool) : (bB bs).length = bs.length := by simp [bB]
theorem zB_eq : zB = bB (List.replicate 256 false) := by rw [zB, bB, List.map_replicate]
theorem bB_take (bs : List Bool) (n : Nat) (h : bs.length ≤ n) : (bB bs).take n = bB bs := by rw [List.take_of_length_le (by rw [bB_len]; exact h)]
theorem bB_drop (bs : List Bool) (n : Nat) (h : n < bs.length) : (bB bs).drop n = .bool bs[n] :: (bB bs).drop (n + 1) := by
  rw [List.drop_eq_getElem_cons (by rw [bB_len]; exact h)]; simp [bB]
theorem bB_closed (k : Nat) (bs : List Bool) : closedL k (bB bs) = true := by
  induction bs with
  | nil => rfl
  | cons b r ih => simp only [bB, List.map_cons, closedL, closed, Bool.true_and]; exact ih
theorem bB_cvT (H : List AObj) (m : Nat) (bs : List Bool) : cvT H m (bB bs) (bB bs) := by
  induction bs with
  | nil => trivial
  | cons b r ih => exact ⟨.inr (.inl ⟨rfl, rfl⟩), ih⟩
theorem bB_set (bs : List Bool) (n : Nat) (b : Bool) (h : n < bs.length) : (bB bs).take n ++ [.bool b] ++ (bB bs).drop (n + 1) = bB (bs.set n b) := by
  simp only [bB, ← List.map_take, ← List.map_drop]
  rw [List.set_eq_take_append_cons_drop, if_pos h]; simp
theorem ldK_bB {bs : List Bool} {n : Nat} {K : AV → Prop} (h : n < bs.length) : ldK none ((bB bs).drop n) K = K (.bool bs[n]) := by rw [bB_drop bs n h]; rfl
def plusL (bs : List Bool) (s : List UInt8) : List Bool := s.foldl (fun b c => b.set c.toNat true) bs
theorem plusL_len (s : List UInt8) : ∀ bs : List Bool, (plusL bs s).length = bs.length := by
  induction s with
  | nil => intro bs; rfl
  | cons c r ih => intro bs; simp only [plusL, List.foldl_cons]; rw [← plusL, ih]; simp
theorem plusL_take {bs : List Bool} {s : List UInt8} {i : Nat} (h : i < s.length) : plusL bs (s.take (i + 1)) = (plusL bs (s.take i)).set s[i].toNat true := by
  rw [List.take_succ_eq_append_getElem h]; simp only [plusL, List.foldl_append, List.foldl_cons, List.foldl_nil]
theorem plusL_at (s : List UInt8) : ∀ (bs : List Bool) (c : UInt8), bs.length = 256 → (plusL bs s)[c.toNat]? = some (bs[c.toNat]?.getD false || decide (c ∈ s)) := by
  induction s with
  | nil => intro bs c h; have := UInt8.toNat_lt c; simp [plusL, List.getElem?_eq_getElem (show c.toNat < bs.length by omega)]
  | cons d r ih =>
    intro bs c h
    simp only [plusL, List.foldl_cons]
    rw [← plusL, ih _ _ (by simpa using h)]
    have hl := UInt8.toNat_lt c
    have hl := UInt8.toNat_lt d
    by_cases hcd : d = c
    · subst hcd; simp [show d.toNat < bs.length by omega]
    · have : d.toNat ≠ c.toNat := fun e => hcd (UInt8.toNat_inj.1 e)
      have hcd' : ¬ c = d := fun e => hcd e.symm
      simp [List.getElem?_set_ne this, hcd']

set_option maxRecDepth 20000 in
theorem plus_c (bs : List Bool) (s : List UInt8) (h256 : bs.length = 256) (hl : s.length < 1000000000) :
    ACalls Tryz.prog 134 [.agg (bB bs), .str s] [] (.agg (bB (plusL bs s))) [] := by
  refine acalls_F c134_ok rfl ?_
  unfold c134
  simp +decide -dsimp -implicitDefEqProofs [go_sem]
  refine loop_of (S := Nat) (fun i => ⟨tmps 17 [(1, .str s), (2, .ptr 0 0), (4, .ptr 1 0), (7, .int .i64 s.length), (8, .int .i64 i)], [.box 136 (bB (plusL bs (s.take i))), .box 136 zB]⟩) (fun i => s.length - i) (fun i => i ≤ s.length) 0 (by simp) (cut_of (by simp) ?_) ?_
  · simp +decide -dsimp -implicitDefEqProofs [go_sem, plusL, bB_cvT, zB_eq]
  intro i hi
  have hp : (plusL bs (s.take i)).length = 256 := by rw [plusL_len, h256]
  by_cases h : i < s.length
  · have w : IntKind.i64.wrap ((i : Int) + 1) = i + 1 := w64 (by omega) (by omega)
    have hc := UInt8.toNat_lt s[i]
    have e := bB_set (plusL bs (s.take i)) s[i].toNat true (by omega)
    rw [← plusL_take h] at e
    simp only [List.append_assoc, List.cons_append, List.nil_append] at e
    simp +decide -dsimp -implicitDefEqProofs [go_sem, h, w, hp, bB_len, hc, e]
    refine ⟨by omega, ?_⟩
    refine next_of (i + 1) (by omega) (by omega) (cut_of (by simp) ?_)
    simp +decide -dsimp -implicitDefEqProofs [go_sem, bB_cvT, zB_eq]
  · have e : i = s.length := by omega
    subst e
    have t1 : ∀ bs : List Bool, bs.length = 256 → (bB bs).take 256 = bB bs := fun bs h => bB_take bs 256 (by omega)
    have t2 : ∀ bs : List Bool, bs.length = 256 → (bB bs).drop 256 = [] := fun bs h => List.drop_eq_nil_of_le (by rw [bB_len]; omega)
    rw [List.take_length] at hp
    simp +decide -dsimp -implicitDefEqProofs [go_sem, hp, bB_len, t1, t2, zB_eq, bB_cvT]
def okName : List UInt8 := "ABCDEFGHIJKLMNOPQRSTUVWXYZabcdefghijklmnopqrstuvwxyz0123456789_.:+-!".toUTF8.toList
theorem dots_c (s : List UInt8) : ACalls Tryz.prog 94 [.str s] [] (.bool (decide (s = [46] ∨ s = [46, 46]))) [] := by
  refine acalls_F c94_ok rfl ?_
  unfold c94
  by_cases h1 : s = [46]
  · simp +decide -dsimp -implicitDefEqProofs [go_sem, h1]
  · by_cases h2 : s = [46, 46]
    · simp +decide -dsimp -implicitDefEqProofs [go_sem, h2]
    · simp +decide -dsimp -implicitDefEqProofs [go_sem, h1, h2]

set_option maxRecDepth 20000 in
theorem has_c (bs : List Bool) (s : List UInt8) (h256 : bs.length = 256) (hl : s.length < 1000000000) :
    ACalls Tryz.prog 95 [.agg (bB bs), .str s] [] (.bool (s.all fun c => bs[c.toNat]?.getD false)) [] := by
  refine acalls_F c95_ok rfl ?_
  unfold c95
  simp +decide -dsimp -implicitDefEqProofs [go_sem]
  refine loop_of (S := Nat) (fun i => ⟨tmps 18 [(1, .str s), (2, .ptr 0 0), (7, .int .i64 s.length), (8, .int .i64 i)], [.box 136 (bB bs)]⟩) (fun i => s.length - i) (fun i => i ≤ s.length ∧ ∀ x ∈ s.take i, bs[x.toNat]?.getD false = true) 0 (by simp) (cut_of (by simp) ?_) ?_
  · simp +decide -dsimp -implicitDefEqProofs [go_sem, bB_cvT]
  intro i hi
  by_cases h : i < s.length
  · have w : IntKind.i64.wrap ((i : Int) + 1) = i + 1 := w64 (by omega) (by omega)
    have hc := UInt8.toNat_lt s[i]
    have hc2 : s[i].toNat < bs.length := by omega
    by_cases hb : bs[s[i].toNat] = true
    · simp +decide -dsimp -implicitDefEqProofs [go_sem, h, w, hc, hc2, ldK_bB, hb]
      refine next_of (i + 1) ⟨by omega, fun x hx => ?_⟩ (by omega) (cut_of (by simp) ?_)
      · rw [List.take_succ_eq_append_getElem h] at hx
        rcases List.mem_append.1 hx with hx | hx
        · exact hi.2 x hx
        · simp at hx; subst hx; simp [hc2, hb]
      simp +decide -dsimp -implicitDefEqProofs [go_sem, bB_cvT]
    · simp +decide -dsimp -implicitDefEqProofs [go_sem, h, w, hc, hc2, ldK_bB, hb]
      exact ⟨s[i], List.getElem_mem h, by simp [hc2, hb]⟩
  · have e : i = s.length := by omega
    have h2 := hi.2
    rw [e, List.take_length] at h2
    simp +decide -dsimp -implicitDefEqProofs [go_sem, h]
    intro x hx
    simpa using h2 x hx
theorem ToLower_c (s : List UInt8) (hs : s.length ≤ 140737488355328) (ha : ∀ b ∈ s, b.toNat < 128) : ACalls Tryz.prog 177 [.str s] [] (.str (Lib.toLowerA s)) [] := by
  refine .of_below (by kernel_rfl) fun c vs hv _ => ?_
  simp only [Vals, Val] at hv
  obtain ⟨v, vs', rfl, rfl, rfl⟩ := hv
  refine (Tryz.strings_ToLower_ascii ⟨s.toArray⟩ c.w (by simpa [ByteArray.size] using hs) (fun j b hj => ha b (List.mem_of_getElem? (by simpa using hj)))).mono fun e w' h => ?_
  exact ⟨_, h.1, h.2, fun c' => by simp only [Val]⟩

theorem IndexByte_c (s : List UInt8) (b : UInt8) : ACalls Tryz.prog 188 [.str s, .int .u8 b.toNat] [] (.int .i64 (Lib.indexByte s b)) [] := by
  refine .of_below (by kernel_rfl) fun c vs hv _ => ?_
  simp only [Vals, Val] at hv
  obtain ⟨v, vs', rfl, rfl, v2, vs2, rfl, rfl, rfl⟩ := hv
  refine (Tryz.strings_IndexByte ⟨s.toArray⟩ b.toNat c.w).mono fun e w' h => ?_
  obtain ⟨h1, rfl⟩ := h
  refine ⟨_, h1, Go.RowKit.Below.refl _ _, fun c' => ?_⟩
  simp [Val]

theorem indexByte_neg (s : List UInt8) (b : UInt8) : -1 ≤ Lib.indexByte s b ∧ (Lib.indexByte s b < 0 ↔ b ∉ s) := by
  induction s with
  | nil => simp [Lib.indexByte]
  | cons x r ih =>
    simp only [Lib.indexByte, beq_iff_eq, List.mem_cons, not_or]
    by_cases h : x = b
    · simp [h]
    · have h' : ¬ b = x := fun e => h e.symm
      by_cases h2 : Lib.indexByte r b = -1
      · simp only [h, if_false, h2, if_true]; rw [h2] at ih; simp_all
      · simp only [h, if_false, h2]
        refine ⟨by omega, ?_⟩
        rw [← ih.2]; constructor
        · intro h3; omega
        · intro h3; omega

set_option maxRecDepth 20000 in
theorem rin_c (s t : List UInt8) (hl : s.length < 1000000000) : ACalls Tryz.prog 140 [.str s, .str t] [] (.bool (s.all fun c => decide (c ∈ t))) [] := by
  refine acalls_F c140_ok rfl ?_
  unfold c140
  simp +decide -dsimp -implicitDefEqProofs [go_sem]
  refine loop_of (S := Nat) (fun i => ⟨tmps 18 [(0, .str s), (1, .str t), (5, .int .i64 i)], []⟩) (fun i => s.length - i) (fun i => i ≤ s.length ∧ ∀ x ∈ s.take i, x ∈ t) 0 (by simp) (cut_of (by simp) ?_) ?_
  · simp +decide -dsimp -implicitDefEqProofs [go_sem]
  intro i hi
  by_cases h : i < s.length
  · have w : IntKind.i64.wrap ((i : Int) + 1) = i + 1 := w64 (by omega) (by omega)
    have hn := indexByte_neg t s[i]
    simp +decide -dsimp -implicitDefEqProofs [go_sem, h]
    refine callE_pure (IndexByte_c t s[i]) rfl rfl ?_
    by_cases hb : s[i] ∈ t
    · have h2 : ¬ Lib.indexByte t s[i] < 0 := fun e => hn.2.1 e hb
      simp +decide -dsimp -implicitDefEqProofs [go_sem, h2, w]
      refine next_of (i + 1) ⟨by omega, fun x hx => ?_⟩ (by omega) (cut_of (by simp) ?_)
      · rw [List.take_succ_eq_append_getElem h] at hx
        rcases List.mem_append.1 hx with hx | hx
        · exact hi.2 x hx
        · simp at hx; subst hx; exact hb
      simp +decide -dsimp -implicitDefEqProofs [go_sem]
    · have h2 : Lib.indexByte t s[i] < 0 := hn.2.2 hb
      simp +decide -dsimp -implicitDefEqProofs [go_sem, h2]
      exact ⟨s[i], List.getElem_mem h, hb⟩
  · have h2 := hi.2
    rw [show i = s.length by omega, List.take_length] at h2
    simp +decide -dsimp -implicitDefEqProofs [go_sem, h]
    intro x hx; exact h2 x hx
def upperL : List UInt8 := [65, 66, 67, 68, 69, 70, 71, 72, 73, 74, 75, 76, 77, 78, 79, 80, 81, 82, 83, 84, 85, 86, 87, 88, 89, 90]
def digitsL : List UInt8 := [48, 49, 50, 51, 52, 53, 54, 55, 56, 57]
def setL : List UInt8 := [65, 66, 67, 68, 69, 70, 71, 72, 73, 74, 75, 76, 77, 78, 79, 80, 81, 82, 83, 84, 85, 86, 87, 88, 89, 90, 97, 98, 99, 100, 101, 102, 103, 104, 105, 106, 107, 108, 109, 110, 111, 112, 113, 114, 115, 116, 117, 118, 119, 120, 121, 122, 48, 49, 50, 51, 52, 53, 54, 55, 56, 57, 95, 46, 58, 43, 45, 33]
def falses : List Bool := List.replicate 256 false
def tblC : List Bool := plusL (plusL (plusL (plusL falses upperL) (Lib.toLowerA upperL)) digitsL) [95, 46, 58, 43, 45]
theorem falses_len : falses.length = 256 := List.length_replicate
theorem tblC_len : tblC.length = 256 := by simp only [tblC, plusL_len, falses_len]
theorem zB_f : zB = bB falses := zB_eq

theorem aggB_closed (k : Nat) (bs : List Bool) : closed k (.agg (bB bs)) = true := by simp only [closed]; exact bB_closed k bs
set_option maxRecDepth 20000 in
theorem common_c : ACalls Tryz.prog 133 [] [] (.agg (bB tblC)) [] := by
  refine acalls_F c133_ok rfl ?_
  unfold c133
  rw [zB_f]
  simp +decide -dsimp -implicitDefEqProofs [go_sem]
  refine callE_pure (plus_c falses upperL falses_len (by decide)) (by simp [closedL, bB_closed, closed]) (aggB_closed _ _) ?_
  simp +decide -dsimp -implicitDefEqProofs [go_sem]
  refine callE_pure (ToLower_c upperL (by decide) (by decide)) rfl rfl ?_
  simp +decide -dsimp -implicitDefEqProofs [go_sem]
  refine callE_pure (plus_c _ (Lib.toLowerA upperL) (by simp only [plusL_len, falses_len]) (by decide)) (by simp [closedL, bB_closed, closed]) (aggB_closed _ _) ?_
  simp +decide -dsimp -implicitDefEqProofs [go_sem]
  refine callE_pure (plus_c _ digitsL (by simp only [plusL_len, falses_len]) (by decide)) (by simp [closedL, bB_closed, closed]) (aggB_closed _ _) ?_
  simp +decide -dsimp -implicitDefEqProofs [go_sem]
  refine callE_pure (plus_c _ [95, 46, 58, 43, 45] (by simp only [plusL_len, falses_len]) (by decide)) (by simp [closedL, bB_closed, closed]) (aggB_closed _ _) ?_
  change cbv _ _ _
  have t1 : ∀ bs : List Bool, bs.length = 256 → (bB bs).take 256 = bB bs := fun bs h => bB_take bs 256 (by omega)
  have t2 : ∀ bs : List Bool, bs.length = 256 → (bB bs).drop 256 = [] := fun bs h => List.drop_eq_nil_of_le (by rw [bB_len]; omega)
  have e : plusL (plusL (plusL (plusL falses upperL) (Lib.toLowerA upperL)) digitsL) [95, 46, 58, 43, 45] = tblC := rfl
  rw [e]
  simp +decide -dsimp -implicitDefEqProofs [go_sem, bB_len, tblC_len, falses_len, t1, t2, bB_cvT]

/-- Which texts are names. -/
def validB (s : List UInt8) : Bool := decide (s ≠ []) && decide (s.length ≤ 32) && !decide (s = [46] ∨ s = [46, 46]) && s.all fun c => decide (c ∈ setL)

theorem tbl_at (c : UInt8) : (plusL tblC [33])[c.toNat]?.getD false = decide (c ∈ setL) := by
  have h0 : ∀ n : Nat, n < 256 → falses[n]?.getD false = false := fun n h => by rw [falses, List.getElem?_replicate, if_pos h]; rfl
  have hl := UInt8.toNat_lt c
  rw [plusL_at _ _ _ tblC_len, tblC, plusL_at _ _ _ (by simp only [plusL_len, falses_len]), plusL_at _ _ _ (by simp only [plusL_len, falses_len]), plusL_at _ _ _ (by simp only [plusL_len, falses_len]), plusL_at _ _ _ falses_len, h0 _ (by omega)]
  simp only [Option.getD_some, Bool.false_or]
  clear hl
  have key : ∀ n : Fin 256, (decide (UInt8.ofNat n ∈ upperL) || decide (UInt8.ofNat n ∈ Lib.toLowerA upperL) || decide (UInt8.ofNat n ∈ digitsL) || decide (UInt8.ofNat n ∈ [95, 46, 58, 43, 45]) || decide (UInt8.ofNat n ∈ ([33] : List UInt8))) = decide (UInt8.ofNat n ∈ setL) := by decide +kernel
  have := key ⟨c.toNat, UInt8.toNat_lt c⟩
  simpa only [UInt8.ofNat_toNat] using this

theorem nValid_c (s : List UInt8) : ACalls Tryz.prog 132 [.str s] [] (.bool (validB s)) [] := by
  refine acalls_F c132_ok rfl ?_
  unfold c132 validB
  by_cases h0 : s = []
  · subst h0; simp +decide -dsimp -implicitDefEqProofs [go_sem]
  by_cases h1 : s.length ≤ 32
  · have h1' : (s.length : Int) ≤ 32 := by omega
    simp +decide -dsimp -implicitDefEqProofs [go_sem, h0, h1, h1']
    refine callE_pure (dots_c s) rfl rfl ?_
    by_cases h2 : s = [46] ∨ s = [46, 46]
    · simp +decide -dsimp -implicitDefEqProofs [go_sem, h2]
      intro a b; exact absurd h2 (by simp [a, b])
    · simp +decide -dsimp -implicitDefEqProofs [go_sem, h2]
      refine callE_pure common_c rfl (aggB_closed _ _) ?_
      simp +decide -dsimp -implicitDefEqProofs [go_sem]
      refine callE_pure (plus_c tblC [33] tblC_len (by decide)) (by simp [closedL, bB_closed, closed]) (aggB_closed _ _) ?_
      simp +decide -dsimp -implicitDefEqProofs [go_sem]
      refine callE_pure (has_c _ s (by rw [plusL_len, tblC_len]) (by omega)) (by simp [closedL, bB_closed, closed]) rfl ?_
      simp +decide -dsimp -implicitDefEqProofs [go_sem, tbl_at]
      intro _; exact ⟨fun e => h2 (.inl e), fun e => h2 (.inr e)⟩
  · have h1' : ¬ (s.length : Int) ≤ 32 := by omega
    simp +decide -dsimp -implicitDefEqProofs [go_sem, h0, h1, h1']

theorem rValid_c (s : List UInt8) : ACalls Tryz.prog 101 [.str s] [] (.bool (validB s)) [] := by
  refine acalls_F c101_ok rfl ?_
  unfold c101 validB
  by_cases h0 : s = []
  · subst h0; simp +decide -dsimp -implicitDefEqProofs [go_sem]
  by_cases h1 : s.length ≤ 32
  · have h1' : (s.length : Int) ≤ 32 := by omega
    simp +decide -dsimp -implicitDefEqProofs [go_sem, h0, h1, h1']
    refine callE_pure (rin_c s setL (by omega)) rfl rfl ?_
    by_cases h2 : (s.all fun c => decide (c ∈ setL)) = true
    · by_cases h3 : s = [46]
      · subst h3; simp +decide -dsimp -implicitDefEqProofs [go_sem]
      · by_cases h4 : s = [46, 46]
        · subst h4; simp +decide -dsimp -implicitDefEqProofs [go_sem]
        · simp +decide -dsimp -implicitDefEqProofs [go_sem, h2, h3, h4]
    · simp +decide -dsimp -implicitDefEqProofs [go_sem, h2]
  · have h1' : ¬ (s.length : Int) ≤ 32 := by omega
    simp +decide -dsimp -implicitDefEqProofs [go_sem, h0, h1, h1']
end Go.Ab
namespace Go.Ab
open Go Go.Proofs
/-- Texts as a slice. -/
def strsV (l : List (List UInt8)) : AV := .imm (l.map sRow)
theorem fold_bd (v : Int) (n : Int) (h : 1 ≤ n) : 0 ≤ fold v n ∧ fold v n < n := by
  unfold fold
  by_cases h1 : n ≤ 1
  · rw [if_pos h1]; omega
  have := tmod_bd v n (by omega)
  rw [if_neg h1]; split <;> omega
def oneS (ss : List (List UInt8)) (v : Int) : List UInt8 := (ss[(fold v ss.length).toNat]?).getD []
theorem oneS_mem {ss : List (List UInt8)} (v : Int) (h : ss ≠ []) : oneS ss v ∈ ss := by
  have hl : 1 ≤ ss.length := List.length_pos_iff.2 h
  have := fold_bd v ss.length (by omega)
  have h2 : (fold v ss.length).toNat < ss.length := by omega
  simp only [oneS, List.getElem?_eq_getElem h2, Option.getD_some]
  exact List.getElem_mem h2

theorem tape_closed (m : Nat) (l : List Int) : closedLL m (l.map fun v => [AV.int .i64 v]) = true := closedLL_map fun _ _ => rfl
theorem tape_ren (is : List Nat) (l : List Int) : renLL is (l.map fun v => [AV.int .i64 v]) = l.map fun v => [AV.int .i64 v] := by
  induction l with
  | nil => rfl
  | cons x r ih => simp [renLL, ih, renL, ren]
theorem tapeO_ren (is : List Nat) (l : List Int) (k : Nat) : renO is (tapeO l k) = tapeO l k := by simp [tapeO, renO, renL, ren, tape_ren]

theorem One_c (t : List Int) (k : Nat) (ss : List (List UInt8)) (hk : k < 1000000000) (h0 : ss ≠ []) (hs : ss.length < 1000000000) :
    ACalls Tryz.prog 25 [.ptr 0 0, strsV ss] [tapeO t k] (.str (oneS ss (tapeV t k))) [tapeO t (k + 1)] := by
  refine acalls_F c25_ok rfl ?_
  unfold c25
  have hn := Next_c t k ss.length hk (by omega)
  have hl : 1 ≤ ss.length := List.length_pos_iff.2 h0
  have hb := fold_bd (tapeV t k) ss.length (by omega)
  have h2 : (fold (tapeV t k) ss.length).toNat < ss.length := by omega
  have e : oneS ss (tapeV t k) = ss[(fold (tapeV t k) ss.length).toNat] := by simp [oneS, h2]
  have hne : ((ss.length : Int) == 0) = false := by simp; exact h0
  unfold strsV sRow
  simp +decide -dsimp -implicitDefEqProofs [go_sem, hne]
  refine callE_frame [0] hn rfl rfl (by simp) (by simp [go_sem]) (by simp [tapeO_ren]) ?_
  simp +decide -dsimp -implicitDefEqProofs [go_sem, h2, hb.1, e, tapeO, tape_ren]

end Go.Ab
namespace Go.Ab
open Go Go.Proofs

def idxI (o : Option Nat) : Int := match o with | some i => i | none => -1
theorem findIdx?_at {α : Type} {l : List α} {p : α → Bool} {i : Nat} (h : i < l.length) (hp : p l[i] = true) (hn : ∀ x ∈ l.take i, p x = false) : l.findIdx? p = some i := by
  rw [List.findIdx?_eq_some_iff_getElem]
  refine ⟨h, by simpa using hp, fun j hj => ?_⟩
  have := hn l[j] (by rw [List.mem_take_iff_getElem]; exact ⟨j, by omega, rfl⟩)
  simp [this]

/-- Objects that name only themselves. -/
def selfH (H : List AObj) : Prop := cvH H H.length H H

set_option maxRecDepth 20000 in
theorem IndexFunc_c (l : List (List UInt8)) (F : Nat) (caps : List AV) (H : List AObj) (p : List UInt8 → Bool) (hl : l.length < 1000000000) (hc : closedL H.length caps = true) (hH : selfH H)
    (hf : ∀ x ∈ l, ACalls Tryz.prog F (.str x :: caps) H (.bool (p x)) H) :
    ACalls Tryz.prog 96 [.imm (l.map sRow), .fn (.func F) [] caps] H (.int .i64 (idxI (l.findIdx? p))) H := by
  refine acalls_F c96_ok rfl ?_
  unfold c96
  simp +decide -dsimp -implicitDefEqProofs [go_sem]
  refine loop_of (S := Nat) (fun i => ⟨tmps 19 [(0, .imm (l.map sRow)), (1, .fn (.func F) [] caps), (7, .int .i64 l.length), (8, .int .i64 i)], H⟩) (fun i => l.length - i) (fun i => i ≤ l.length ∧ ∀ x ∈ l.take i, p x = false) 0 (by simp) (cut_of (by simp) ?_) ?_
  · simp +decide -dsimp -implicitDefEqProofs [go_sem, hc]; exact hH
  intro i hi
  by_cases h : i < l.length
  · have w : IntKind.i64.wrap ((i : Int) + 1) = i + 1 := w64 (by omega) (by omega)
    simp +decide -dsimp -implicitDefEqProofs [go_sem, h]
    refine callE_of (hf l[i] (List.getElem_mem h)) ?_
    by_cases hp : p l[i] = true
    · simp +decide -dsimp -implicitDefEqProofs [go_sem, hp, findIdx?_at h hp hi.2, idxI]; exact hH
    · simp +decide -dsimp -implicitDefEqProofs [go_sem, hp, w]
      refine next_of (i + 1) ⟨by omega, fun x hx => ?_⟩ (by omega) (cut_of (by simp) ?_)
      · rw [List.take_succ_eq_append_getElem h] at hx
        rcases List.mem_append.1 hx with hx | hx
        · exact hi.2 x hx
        · simp at hx; subst hx; simpa using hp
      simp +decide -dsimp -implicitDefEqProofs [go_sem, hc]; exact hH
  · have e : i = l.length := by omega
    have h2 := hi.2
    rw [e, List.take_length] at h2
    have h3 : l.findIdx? p = none := by rw [List.findIdx?_eq_none_iff]; exact fun x hx => by simp [h2 x hx]
    simp +decide -dsimp -implicitDefEqProofs [go_sem, h, h3, idxI]; exact hH

theorem idxI_nonneg {l : List (List UInt8)} {p : List UInt8 → Bool} : decide (0 ≤ idxI (l.findIdx? p)) = l.any p := by
  cases h : l.findIdx? p with
  | none =>
    rw [List.findIdx?_eq_none_iff] at h
    have : l.any p = false := by rw [List.any_eq_false]; exact fun x hx => by simp [h x hx]
    simp [idxI, this]
  | some i =>
    obtain ⟨h1, h2, _⟩ := List.findIdx?_eq_some_iff_getElem.1 h
    have : l.any p = true := List.any_eq_true.2 ⟨l[i], List.getElem_mem h1, h2⟩
    simp [idxI, this]

theorem ContainsFunc_c (l : List (List UInt8)) (F : Nat) (caps : List AV) (H : List AObj) (p : List UInt8 → Bool) (hl : l.length < 1000000000) (hc : closedL H.length caps = true) (hH : selfH H)
    (hf : ∀ x ∈ l, ACalls Tryz.prog F (.str x :: caps) H (.bool (p x)) H) :
    ACalls Tryz.prog 57 [.imm (l.map sRow), .fn (.func F) [] caps] H (.bool (l.any p)) H := by
  refine acalls_F c57_ok rfl ?_
  unfold c57
  simp +decide -dsimp -implicitDefEqProofs [go_sem]
  refine callE_of (IndexFunc_c l F caps H p hl hc hH hf) ?_
  simp +decide -dsimp -implicitDefEqProofs [go_sem, ← idxI_nonneg]; exact hH

set_option maxRecDepth 20000 in
theorem all_c (l : List (List UInt8)) (F : Nat) (caps : List AV) (H : List AObj) (p : List UInt8 → Bool) (hl : l.length < 1000000000) (hc : ∀ n, H.length ≤ n → closedL n caps = true) (_hH : selfH H) (hH2 : ∀ x, cvH (H ++ [x]) H.length (H ++ [x]) H) (hH3 : ∀ cs, closedL (H.length + 1) cs = true → selfH (H ++ [.box 99 cs]))
    (hf : ∀ x ∈ l, ACalls Tryz.prog F (.str x :: caps) (H ++ [.box 99 [.fn (.func F) [] caps]]) (.bool (p x)) (H ++ [.box 99 [.fn (.func F) [] caps]])) :
    ACalls Tryz.prog 91 [.imm (l.map sRow), .fn (.func F) [] caps] H (.bool (l.all p)) H := by
  have h123 : ∀ x ∈ l, ACalls Tryz.prog 135 [.str x, .ptr H.length 0] (H ++ [.box 99 [.fn (.func F) [] caps]]) (.bool (!p x)) (H ++ [.box 99 [.fn (.func F) [] caps]]) := fun x hx => by
    refine acalls_F c135_ok rfl ?_
    unfold c135
    simp +decide -dsimp -implicitDefEqProofs [go_sem]
    refine callE_of (hf x hx) ?_
    simp +decide -dsimp -implicitDefEqProofs [go_sem]
    have := hH3 [.fn (.func F) [] caps] (by simp [closedL, closed, hc (H.length + 1) (by omega)])
    simpa [selfH] using this
  refine acalls_F c91_ok rfl ?_
  unfold c91
  simp +decide -dsimp -implicitDefEqProofs [go_sem]
  refine callE_of (ContainsFunc_c l 135 [.ptr H.length 0] (H ++ [.box 99 [.fn (.func F) [] caps]]) (fun x => !p x) hl (by simp [closedL, closed]) (hH3 _ (by simp [closedL, closed, hc (H.length + 1) (by omega)])) h123) ?_
  have e : (!l.any fun x => !p x) = l.all p := by rw [List.not_any_eq_all_not]; simp
  simp +decide -dsimp -implicitDefEqProofs [go_sem, e]; exact hH2 _
end Go.Ab
namespace Go.Ab
open Go Go.Proofs
def keyL : List UInt8 := [65, 66, 67, 68, 69, 70, 71, 72, 73, 74, 75, 76, 77, 78, 79, 80, 81, 82, 83, 84, 85, 86, 87, 88, 89, 90, 48, 49, 50, 51, 52, 53, 54, 55, 56, 57, 95]
def keyNB (s : List UInt8) : Bool := decide (s ≠ []) && decide (s.length ≤ 32) && ((s.take 1).all fun c => decide (c ∈ upperL)) && s.all fun c => decide (c ∈ keyL)

theorem falses_at (c : UInt8) : falses[c.toNat]?.getD false = false := by
  have := UInt8.toNat_lt c
  rw [falses, List.getElem?_replicate, if_pos (by omega)]; rfl
theorem tblU_at (c : UInt8) : (plusL falses upperL)[c.toNat]?.getD false = decide (c ∈ upperL) := by
  rw [plusL_at _ _ _ falses_len, falses_at]; simp
theorem tblK_at (c : UInt8) : (plusL (plusL (plusL falses upperL) digitsL) [95])[c.toNat]?.getD false = decide (c ∈ keyL) := by
  rw [plusL_at _ _ _ (by simp only [plusL_len, falses_len]), plusL_at _ _ _ (by simp only [plusL_len, falses_len]), tblU_at]
  simp only [Option.getD_some]
  have key : ∀ n : Fin 256, (decide (UInt8.ofNat n ∈ upperL) || decide (UInt8.ofNat n ∈ digitsL) || decide (UInt8.ofNat n ∈ ([95] : List UInt8))) = decide (UInt8.ofNat n ∈ keyL) := by decide +kernel
  have := key ⟨c.toNat, UInt8.toNat_lt c⟩
  simpa only [UInt8.ofNat_toNat] using this

end Go.Ab
namespace Go.Ab
open Go Go.Proofs

/-- The pieces of a text. -/
def splitL (s : List UInt8) (c : UInt8) : List (List UInt8) := (Lib.splitB ⟨#[c]⟩ 0 (Lib.countB ⟨s.toArray⟩ ⟨#[c]⟩) ⟨s.toArray⟩).map fun b => b.data.toList

theorem Split_c (s : List UInt8) (c : UInt8) (hs : s.length < 4294967281) :
    ACalls Tryz.prog 92 [.str s, .str [c]] [] (.imm ((splitL s c).map sRow)) [] := by
  refine ⟨by kernel_rfl, fun cx vs hH hr hv => ?_⟩
  simp only [Vals, Val] at hv
  obtain ⟨v, vs', rfl, rfl, v2, vs2, rfl, rfl, rfl⟩ := hv
  obtain ⟨⟨m, hm⟩, _⟩ := hr.gl
  refine (Tryz.strings_Split ⟨s.toArray⟩ ⟨#[c]⟩ m cx.w hs hm (Nat.le_refl 1)).mono fun e w' hq => ?_
  obtain ⟨rfl, rfl⟩ := hq
  have hlen := Lib.splitB_all ⟨#[c]⟩ (Nat.le_refl 1) 0 _ ⟨s.toArray⟩ rfl
  generalize hL : Lib.splitB ⟨#[c]⟩ 0 (Lib.countB ⟨s.toArray⟩ ⟨#[c]⟩) ⟨s.toArray⟩ = L at hlen
  generalize Lib.countB ⟨s.toArray⟩ ⟨#[c]⟩ = n at hlen
  have hN := rel_grow hr (F' := fun b => cx.F b ∨ b = cx.w.heap.size) (w' := cx.w.alloc (.cells (L.map Value.string).toArray 9)) (fun b h => .inl h) (fun b h => h.imp id fun h => ⟨by omega, by simp; omega⟩) (fun b hb => alloc_old cx.w _ b hb) (by simp) rfl rfl rfl
  refine ⟨_, ⟨fun b => cx.F b ∨ b = cx.w.heap.size, cx.μ, cx.H, _⟩, rfl, rfl, hH, hN.1, hN.2, ?_⟩
  have e : (splitL s c).map sRow = L.map fun b => sRow b.data.toList := by rw [splitL, hL, List.map_map]; rfl
  rw [e]
  simp only [Val, List.length_map]
  refine .inl ⟨cx.w.heap.size, 0, n + 1, 1, by rw [hlen], .inr rfl, by omega, ?_⟩
  rw [RowsAt_iff]
  intro j r hj
  rw [List.getElem?_map] at hj
  cases h : L[j]? with
  | none => simp [h] at hj
  | some y =>
    simp [h] at hj
    subst hj
    refine ⟨rfl, ?_⟩
    simp only [sRow, Cells, Val, and_true]
    refine ⟨_, ?_, rfl, rfl⟩
    rw [Nat.mul_one, Nat.zero_add]
    show (cx.w.alloc _).cell? _ = _
    rw [World.cell?_alloc_new]
    simp [h]

theorem splitL_ne (s : List UInt8) (c : UInt8) : splitL s c ≠ [] := by
  have hlen := Lib.splitB_all ⟨#[c]⟩ (Nat.le_refl 1) 0 _ ⟨s.toArray⟩ rfl
  intro h
  have := congrArg List.length h
  simp [splitL, hlen] at this
theorem splitL_length_le (s : List UInt8) (c : UInt8) : (splitL s c).length ≤ s.length + 1 := by
  have hlen := Lib.splitB_all ⟨#[c]⟩ (Nat.le_refl 1) 0 _ ⟨s.toArray⟩ rfl
  have h2 := Lib.countB_le ⟨#[c]⟩ (Nat.le_refl 1) _ ⟨s.toArray⟩ (Nat.le_refl _)
  have h3 : (ByteArray.mk s.toArray).size = s.length := rfl
  rw [splitL, List.length_map, hlen]; omega

theorem splitB_small (sep : ByteArray) (n : Nat) : ∀ (k : Nat) (s : ByteArray), s.size ≤ n → ∀ x ∈ Lib.splitB sep 0 k s, x.size ≤ n
  | 0, s, h, x, hx => by simp [Lib.splitB] at hx; subst hx; exact h
  | k + 1, s, h, x, hx => by
    unfold Lib.splitB at hx
    split at hx
    · simp at hx; subst hx; exact h
    · rcases List.mem_cons.1 hx with rfl | hx
      · rw [ByteArray.size_extract]; omega
      · exact splitB_small sep n k _ (by rw [ByteArray.size_extract]; omega) x hx
theorem splitL_small {s : List UInt8} {c : UInt8} {x : List UInt8} (h : x ∈ splitL s c) : x.length ≤ s.length := by
  obtain ⟨y, hy, rfl⟩ := List.mem_map.1 h
  exact splitB_small _ s.length _ ⟨s.toArray⟩ (Nat.le_refl _) y hy

theorem HasPrefix0_c (s p : List UInt8) (_hl : p.length < 9223372036854775807) : ACalls Tryz.prog 158 [.str s, .str p] [] (.bool (p.isPrefixOf s)) [] := by
  refine acalls_F c158_ok rfl ?_
  unfold c158
  by_cases h : p.length ≤ s.length
  · have h' : (p.length : Int) ≤ s.length := by omega
    have e : (s.take p.length == p) = p.isPrefixOf s := by
      rw [Bool.eq_iff_iff, beq_iff_eq, List.isPrefixOf_iff_prefix, List.prefix_iff_eq_take]
      exact eq_comm
    simp +decide -dsimp -implicitDefEqProofs [go_sem, h, h', e]
  · have h' : ¬ (p.length : Int) ≤ s.length := by omega
    have e : p.isPrefixOf s = false := by
      rw [Bool.eq_false_iff]; intro hp; rw [List.isPrefixOf_iff_prefix] at hp
      exact h hp.length_le
    simp +decide -dsimp -implicitDefEqProofs [go_sem, h', e]

theorem HasPrefix_c (s p : List UInt8) (hl : p.length < 9223372036854775807) : ACalls Tryz.prog 123 [.str s, .str p] [] (.bool (p.isPrefixOf s)) [] := by
  refine acalls_F c123_ok rfl ?_
  unfold c123
  simp +decide -dsimp -implicitDefEqProofs [go_sem]
  refine callE_pure (HasPrefix0_c s p hl) rfl rfl ?_
  simp +decide -dsimp -implicitDefEqProofs [go_sem]

def trimP (s p : List UInt8) : List UInt8 := if p.isPrefixOf s then s.drop p.length else s
theorem CutPrefix_c (s p : List UInt8) (hl : p.length < 9223372036854775807) : ACalls Tryz.prog 131 [.str s, .str p] [] (.tup [.str (trimP s p), .bool (p.isPrefixOf s)]) [] := by
  have h108 : ACalls Tryz.prog 176 [.str s, .str p] [] (.tup [.str (trimP s p), .bool (p.isPrefixOf s)]) [] := by
    refine acalls_F c176_ok rfl ?_
    unfold c176 trimP
    simp +decide -dsimp -implicitDefEqProofs [go_sem]
    refine callE_pure (HasPrefix0_c s p hl) rfl rfl ?_
    by_cases h : p.isPrefixOf s = true
    · have h2 : p.length ≤ s.length := (List.isPrefixOf_iff_prefix.1 h).length_le
      simp +decide -dsimp -implicitDefEqProofs [go_sem, h, h2]
      intro hn; exact absurd (List.isPrefixOf_iff_prefix.1 h) hn
    · simp +decide -dsimp -implicitDefEqProofs [go_sem, h]
      intro hn; exact absurd (List.isPrefixOf_iff_prefix.2 hn) h
  refine acalls_F c131_ok rfl ?_
  unfold c131
  simp +decide -dsimp -implicitDefEqProofs [go_sem]
  refine callE_pure h108 rfl rfl ?_
  simp +decide -dsimp -implicitDefEqProofs [go_sem]

theorem cvT_self {H : List AObj} {m : Nat} : ∀ {l : List AV}, closedL m l = true → cvT H m l l
  | [], _ => trivial
  | x :: xs, h => by
    simp only [closedL, Bool.and_eq_true] at h
    exact ⟨.inr (.inl ⟨rfl, h.1⟩), cvT_self h.2⟩

/-- The names of a path. -/
def pathL (s : List UInt8) : Option (List (List UInt8)) :=
  match s with
  | [] => none
  | c :: r => if c = 47 ∧ ((splitL r 47).all validB) = true then some (splitL r 47) else none

theorem trimP_slash (s : List UInt8) : trimP s [47] = if ([47] : List UInt8).isPrefixOf s then s.drop 1 else s := rfl

set_option maxRecDepth 20000 in
theorem nSplit_c (s : List UInt8) (hs : s.length < 100000000) : ACalls Tryz.prog 89 [.str s] [] (match pathL s with | some l => .tup [.imm (l.map sRow), .int .i64 0] | none => .tup [.imm [], .int .i64 10]) [] := by
  refine acalls_F c89_ok rfl ?_
  unfold c89
  simp +decide -dsimp -implicitDefEqProofs [go_sem]
  refine callE_pure (CutPrefix_c s [47] (by decide)) rfl rfl ?_
  have hlt : (trimP s [47]).length ≤ s.length := by unfold trimP; split <;> simp
  simp +decide -dsimp -implicitDefEqProofs [go_sem]
  have hl2 := splitL_length_le (trimP s [47]) 47
  refine callE_pure (Split_c (trimP s [47]) 47 (by omega)) rfl (by simp [closed, closedLL_sRows]) ?_
  by_cases hp : ([47] : List UInt8).isPrefixOf s = true
  · obtain ⟨r, rfl⟩ : ∃ r, s = 47 :: r := by
      cases s with
      | nil => simp at hp
      | cons c r => simp at hp; exact ⟨r, by rw [hp]⟩
    have e : trimP (47 :: r) [47] = r := by simp [trimP]
    rw [e]
    simp +decide -dsimp -implicitDefEqProofs [go_sem]
    refine callE_of (all_c (splitL r 47) 132 [] [] validB (by rw [e] at hl2; simp only [List.length_cons] at hs; omega) (fun _ _ => rfl) (by simp [selfH, cvH]) (fun _ => by simp [cvH]) (fun cs h => ⟨⟨rfl, cvT_self h⟩, trivial⟩) (fun x _ => (nValid_c x).pure _ rfl rfl)) ?_
    by_cases hv : ((splitL r 47).all validB) = true
    · simp +decide -dsimp -implicitDefEqProofs [go_sem, hv, pathL]
    · simp +decide -dsimp -implicitDefEqProofs [go_sem, hv, pathL]
  · have e : pathL s = none := by
      cases s with
      | nil => rfl
      | cons c r => simp at hp; simp [pathL]; intro h; exact absurd h.symm hp
    simp +decide -dsimp -implicitDefEqProofs [go_sem, hp, e]
end Go.Ab
namespace Go.Ab
open Go Go.Proofs

def placeB (s : List UInt8) : Bool := match pathL s with | some l => decide (l.length ≤ 7) | none => false

end Go.Ab
namespace Go.Ab
open Go Go.Proofs
def tblP : List Bool := plusL tblC [64, 35, 61, 37]
theorem tblP_len : tblP.length = 256 := by simp only [tblP, plusL_len, tblC_len]
def linkL : List UInt8 := [65, 66, 67, 68, 69, 70, 71, 72, 73, 74, 75, 76, 77, 78, 79, 80, 81, 82, 83, 84, 85, 86, 87, 88, 89, 90, 97, 98, 99, 100, 101, 102, 103, 104, 105, 106, 107, 108, 109, 110, 111, 112, 113, 114, 115, 116, 117, 118, 119, 120, 121, 122, 48, 49, 50, 51, 52, 53, 54, 55, 56, 57, 95, 46, 58, 43, 45, 64, 35, 61, 37]

theorem tblP_at (c : UInt8) : tblP[c.toNat]?.getD false = decide (c ∈ linkL) := by
  rw [tblP, plusL_at _ _ _ tblC_len, tblC, plusL_at _ _ _ (by simp only [plusL_len, falses_len]), plusL_at _ _ _ (by simp only [plusL_len, falses_len]), plusL_at _ _ _ (by simp only [plusL_len, falses_len]), tblU_at]
  simp only [Option.getD_some]
  have key : ∀ n : Fin 256, (decide (UInt8.ofNat n ∈ upperL) || decide (UInt8.ofNat n ∈ Lib.toLowerA upperL) || decide (UInt8.ofNat n ∈ digitsL) || decide (UInt8.ofNat n ∈ [95, 46, 58, 43, 45]) || decide (UInt8.ofNat n ∈ ([64, 35, 61, 37] : List UInt8))) = decide (UInt8.ofNat n ∈ linkL) := by decide +kernel
  have := key ⟨c.toNat, UInt8.toNat_lt c⟩
  simpa only [UInt8.ofNat_toNat] using this

set_option maxRecDepth 20000 in
theorem parts_c : ACalls Tryz.prog 90 [] [] (.agg (bB tblP)) [] := by
  refine acalls_F c90_ok rfl ?_
  unfold c90
  rw [zB_f]
  simp +decide -dsimp -implicitDefEqProofs [go_sem]
  refine callE_pure common_c rfl (aggB_closed _ _) ?_
  simp +decide -dsimp -implicitDefEqProofs [go_sem]
  refine callE_pure (plus_c tblC [64, 35, 61, 37] tblC_len (by decide)) (by simp [closedL, bB_closed, closed]) (aggB_closed _ _) ?_
  change cbv _ _ _
  have t1 : ∀ bs : List Bool, bs.length = 256 → (bB bs).take 256 = bB bs := fun bs h => bB_take bs 256 (by omega)
  have t2 : ∀ bs : List Bool, bs.length = 256 → (bB bs).drop 256 = [] := fun bs h => List.drop_eq_nil_of_le (by rw [bB_len]; omega)
  have e : plusL tblC [64, 35, 61, 37] = tblP := rfl
  rw [e]
  simp +decide -dsimp -implicitDefEqProofs [go_sem, bB_len, tblP_len, falses_len, t1, t2, bB_cvT]

/-- A component of a link's name. -/
def compB (s : List UInt8) : Bool := decide (s ≠ []) && !decide (s = [46] ∨ s = [46, 46]) && s.all fun c => decide (c ∈ linkL)
def linkB (s : List UInt8) : Bool := decide (s.length ≤ 256) && (splitL s 47).all compB

theorem hasP_c (s : List UInt8) (hl : s.length < 1000000000) : ACalls Tryz.prog 95 [.agg (bB tblP), .str s] [] (.bool (s.all fun c => decide (c ∈ linkL))) [] := by
  have := has_c tblP s tblP_len hl
  simp only [tblP_at] at this
  exact this

set_option maxRecDepth 20000 in
theorem comp1_c (s : List UInt8) (hl : s.length < 1000000000) (H : List AObj) (H2 : List AObj) (hH : H = .box 136 (bB tblP) :: H2) (hs : selfH H) : ACalls Tryz.prog 93 [.str s, .ptr 0 0] H (.bool (compB s)) H := by
  refine acalls_F c93_ok rfl ?_
  unfold c93 compB
  have h0 : H[0]? = some (.box 136 (bB tblP)) := by rw [hH]; rfl
  have t1 : ∀ bs : List Bool, bs.length = 256 → (bB bs).take 256 = bB bs := fun bs h => bB_take bs 256 (by omega)
  by_cases he : s = []
  · subst he; simp +decide -dsimp -implicitDefEqProofs [go_sem]; exact hs
  simp +decide -dsimp -implicitDefEqProofs [go_sem, he]
  refine callE_pure (dots_c s) rfl rfl ?_
  by_cases h3 : s = [46]
  · subst h3; simp +decide -dsimp -implicitDefEqProofs [go_sem]; exact hs
  by_cases h4 : s = [46, 46]
  · subst h4; simp +decide -dsimp -implicitDefEqProofs [go_sem]; exact hs
  simp +decide -dsimp -implicitDefEqProofs [go_sem, he, h3, h4, h0, tblP_len, t1]
  refine callE_pure (hasP_c s hl) (by simp [closedL, closed, bB_closed]) rfl ?_
  simp +decide -dsimp -implicitDefEqProofs [go_sem, h3, h4]
  exact hs

set_option maxRecDepth 20000 in
theorem Link_c (s : List UInt8) (hl : s.length < 1000000000) : ACalls Tryz.prog 56 [.str s] [] (.bool (linkB s)) [] := by
  refine acalls_F c56_ok rfl ?_
  unfold c56 linkB
  rw [zB_f]
  have t1 : ∀ bs : List Bool, bs.length = 256 → (bB bs).take 256 = bB bs := fun bs h => bB_take bs 256 (by omega)
  have t2 : ∀ bs : List Bool, bs.length = 256 → (bB bs).drop 256 = [] := fun bs h => List.drop_eq_nil_of_le (by rw [bB_len]; omega)
  simp +decide -dsimp -implicitDefEqProofs [go_sem]
  refine callE_pure parts_c rfl (aggB_closed _ _) ?_
  by_cases h : s.length ≤ 256
  · have h' : (s.length : Int) ≤ 256 := by omega
    simp +decide -dsimp -implicitDefEqProofs [go_sem, bB_len, tblP_len, falses_len, t2, h']
    refine callE_pure (Split_c s 47 (by omega)) rfl (by simp [closed, closedLL_sRows]) ?_
    simp +decide -dsimp -implicitDefEqProofs [go_sem]
    have hl2 := splitL_length_le s 47
    refine callE_of (all_c (splitL s 47) 93 [.ptr 0 0] [.box 136 (bB tblP)] compB (by omega) (fun n hn => by simp [closedL, closed]; exact hn) ⟨⟨rfl, bB_cvT _ _ _⟩, trivial⟩ (fun _ => ⟨⟨rfl, bB_cvT _ _ _⟩, trivial⟩) (fun cs hcs => ⟨⟨rfl, bB_cvT _ _ _⟩, ⟨rfl, cvT_self hcs⟩, trivial⟩)
      (fun x hx => comp1_c x (by have := splitL_small hx; omega) _ _ rfl ⟨⟨rfl, bB_cvT _ _ _⟩, ⟨rfl, cvT_self (by simp [closedL, closed])⟩, trivial⟩)) ?_
    simp +decide -dsimp -implicitDefEqProofs [go_sem, h]
  · have h' : ¬ (s.length : Int) ≤ 256 := by omega
    simp +decide -dsimp -implicitDefEqProofs [go_sem, bB_len, tblP_len, falses_len, t2, h, h']

set_option maxRecDepth 20000 in
theorem rLink_c (s : List UInt8) (hl : s.length < 1000000000) : ACalls Tryz.prog 105 [.str s] [] (.bool (linkB s)) [] := by
  refine acalls_F c105_ok rfl ?_
  unfold c105
  simp +decide -dsimp -implicitDefEqProofs [go_sem]
  refine callE_pure (Split_c s 47 (by omega)) rfl (by simp [closed, closedLL_sRows]) ?_
  simp +decide -dsimp -implicitDefEqProofs [go_sem]
  have hl2 := splitL_length_le s 47
  have hsm : ∀ x ∈ splitL s 47, x.length ≤ s.length := fun x hx => splitL_small hx
  have hlb : linkB s = (decide (s.length ≤ 256) && (splitL s 47).all compB) := rfl
  generalize hL : splitL s 47 = L at hl2 hsm hlb
  refine loop_of (S := Nat) (fun i => ⟨tmps 43 [(0, .str s), (3, .imm (L.map sRow)), (4, .int .i64 i)], []⟩) (fun i => L.length - i) (fun i => i ≤ L.length ∧ ∀ x ∈ L.take i, compB x = true) 0 (by simp) (cut_of (by simp) ?_) ?_
  · simp +decide -dsimp -implicitDefEqProofs [go_sem]
  intro i hi
  by_cases h : i < L.length
  · have w : IntKind.i64.wrap ((i : Int) + 1) = i + 1 := w64 (by omega) (by omega)
    have hxl := hsm L[i] (List.getElem_mem h)
    have hbad : compB L[i] = false → linkB s = false := fun e => by
      rw [hlb, Bool.and_eq_false_iff]; right; rw [List.all_eq_false]; exact ⟨L[i], List.getElem_mem h, by simp [e]⟩
    have key : ∀ x : List UInt8, x = L[i] → compB x = compB L[i] := fun x e => by rw [e]
    by_cases h1 : L[i] = []
    · have e := hbad (by rw [h1]; rfl)
      simp +decide -dsimp -implicitDefEqProofs [go_sem, h, h1, e]
    by_cases h2 : L[i] = [46]
    · have e := hbad (by rw [h2]; rfl)
      simp +decide -dsimp -implicitDefEqProofs [go_sem, h, h2, e]
    by_cases h3 : L[i] = [46, 46]
    · have e := hbad (by rw [h3]; rfl)
      simp +decide -dsimp -implicitDefEqProofs [go_sem, h, h3, e]
    simp +decide -dsimp -implicitDefEqProofs [go_sem, h, h1, h2, h3]
    refine callE_pure (rin_c L[i] linkL (by omega)) rfl rfl ?_
    have ec : compB L[i] = (L[i].all fun c => decide (c ∈ linkL)) := by simp [compB, h1, h2, h3]
    by_cases h4 : (L[i].all fun c => decide (c ∈ linkL)) = true
    · simp +decide -dsimp -implicitDefEqProofs [go_sem, h3, h4, w]
      refine next_of (i + 1) ⟨by omega, fun x hx => ?_⟩ (by omega) (cut_of (by simp) ?_)
      · rw [List.take_succ_eq_append_getElem h] at hx
        rcases List.mem_append.1 hx with hx | hx
        · exact hi.2 x hx
        · simp at hx; subst hx; rw [ec, h4]
      simp +decide -dsimp -implicitDefEqProofs [go_sem]
    · have e := hbad (by rw [ec]; simpa using h4)
      simp +decide -dsimp -implicitDefEqProofs [go_sem, h3, h4, e]
  · have e : i = L.length := by omega
    have h2 := hi.2
    rw [e, List.take_length] at h2
    have h3 : L.all compB = true := List.all_eq_true.2 h2
    have e2 : (decide ((s.length : Int) ≤ 256)) = decide (s.length ≤ 256) := by rw [decide_eq_decide]; omega
    simp +decide -dsimp -implicitDefEqProofs [go_sem, h, hlb, h3, e2]
end Go.Ab
namespace Go.Ab
open Go

/-- Cut at the first such byte. -/
def cutL (c : UInt8) : List UInt8 → Option (List UInt8 × List UInt8)
  | [] => none
  | x :: r => if x = c then some ([], r) else (cutL c r).map fun p => (x :: p.1, p.2)
theorem cutL_app {c : UInt8} {t : List UInt8} : ∀ {s : List UInt8}, c ∉ s → cutL c (s ++ c :: t) = some (s, t)
  | [], _ => by simp [cutL]
  | x :: r, h => by
    simp only [List.mem_cons, not_or] at h
    simp [cutL, cutL_app h.2, show ¬ x = c from fun e => h.1 e.symm]
theorem cutL_none {c : UInt8} : ∀ {s : List UInt8}, c ∉ s → cutL c s = none
  | [], _ => rfl
  | x :: r, h => by
    simp only [List.mem_cons, not_or] at h
    simp [cutL, cutL_none h.2, show ¬ x = c from fun e => h.1 e.symm]
theorem cutL_some {c : UInt8} : ∀ {s a b : List UInt8}, cutL c s = some (a, b) → s = a ++ c :: b ∧ c ∉ a
  | [], _, _, h => by simp [cutL] at h
  | x :: r, a, b, h => by
    unfold cutL at h
    split at h
    · rename_i e
      simp at h; obtain ⟨rfl, rfl⟩ := h; subst e; simp
    · rename_i e
      cases hr : cutL c r with
      | none => simp [hr] at h
      | some p =>
        simp [hr] at h
        obtain ⟨rfl, rfl⟩ := h
        obtain ⟨h1, h2⟩ := cutL_some (a := p.1) (b := p.2) (by rw [hr])
        exact ⟨by rw [List.cons_append, ← h1], by simp [h2]; exact fun e' => e e'.symm⟩

/-- All pieces. -/
def splitC (c : UInt8) : List UInt8 → List (List UInt8)
  | [] => [[]]
  | x :: r => if x = c then [] :: splitC c r else (match splitC c r with | a :: l => (x :: a) :: l | [] => [[x]])
theorem splitC_ne (c : UInt8) : ∀ s, splitC c s ≠ []
  | [] => by simp [splitC]
  | x :: r => by
    unfold splitC; split
    · simp
    · split <;> simp
theorem splitC_app {c : UInt8} {t : List UInt8} : ∀ {s : List UInt8}, c ∉ s → splitC c (s ++ c :: t) = s :: splitC c t
  | [], _ => by simp [splitC]
  | x :: r, h => by
    simp only [List.mem_cons, not_or] at h
    simp [splitC, splitC_app h.2, show ¬ x = c from fun e => h.1 e.symm]
theorem splitC_none {c : UInt8} : ∀ {s : List UInt8}, c ∉ s → splitC c s = [s]
  | [], _ => rfl
  | x :: r, h => by
    simp only [List.mem_cons, not_or] at h
    simp [splitC, splitC_none h.2, show ¬ x = c from fun e => h.1 e.symm]
theorem index_one (c : UInt8) : ∀ s : List UInt8, Lib.index s [c] = Lib.indexByte s c
  | [] => rfl
  | b :: l => by
    unfold Lib.index Lib.indexByte
    rw [index_one c l]
    by_cases h : b = c
    · subst h; simp [List.isPrefixOf]
    · have : ¬ c = b := fun e => h e.symm
      simp [List.isPrefixOf, h, this]
theorem indexByte_cut (c : UInt8) : ∀ s : List UInt8, (Lib.indexByte s c = -1 ∧ c ∉ s) ∨ ∃ a b, s = a ++ c :: b ∧ c ∉ a ∧ Lib.indexByte s c = a.length
  | [] => .inl ⟨rfl, by simp⟩
  | x :: r => by
    unfold Lib.indexByte
    by_cases h : x = c
    · subst h; exact .inr ⟨[], r, rfl, by simp, by simp⟩
    · have h' : ¬ c = x := fun e => h e.symm
      rcases indexByte_cut c r with ⟨h1, h2⟩ | ⟨a, b, h1, h2, h3⟩
      · exact .inl ⟨by simp [h, h1], by simp [h2, h']⟩
      · refine .inr ⟨x :: a, b, by rw [h1]; rfl, by simp [h2, h'], ?_⟩
        have h4 : ¬ (a.length : Int) = -1 := by omega
        simp [h, h3, h4]
theorem splitK_eq (c : UInt8) : ∀ (n : Nat) (s : List UInt8), s.length ≤ n → Lib.splitK [c] 0 (Lib.count s [c]) s = splitC c s
  | n, s, hn => by
    rcases indexByte_cut c s with ⟨h1, h2⟩ | ⟨a, b, h1, h2, h3⟩
    · have hi : Lib.index s [c] = -1 := by rw [index_one, h1]
      rw [Lib.count_miss hi, splitC_none h2]; rfl
    · have hi : Lib.index s [c] = (a.length : Nat) := by rw [index_one, h3]
      have hm : ¬ (Lib.index s [c] == -1) = true := fun e => by have := beq_iff_eq.1 e; omega
      rw [Lib.count_hit (by simp) hi, Nat.add_comm]
      unfold Lib.splitK
      rw [if_neg hm, hi]
      have e1 : s.drop (a.length + [c].length) = b := by rw [h1]; simp
      have e2 : s.take a.length = a := by rw [h1]; simp
      have e3 : ((a.length : Nat) : Int).toNat = a.length := by omega
      rw [e1, e3, Nat.add_zero, e2, e1]
      have hb : b.length < s.length := by rw [h1]; simp; omega
      cases n with
      | zero => omega
      | succ n =>
        rw [splitK_eq c n b (by omega)]
        conv => rhs; rw [h1]
        rw [splitC_app h2]

/-! ### Numerals -/
def digC (d : Nat) : UInt8 := UInt8.ofNat (48 + d)
def digsB (b : Nat) (u : Nat) : List UInt8 := if _h : u < b ∨ b < 2 then [digC u] else digsB b (u / b) ++ [digC (u % b)]
  termination_by u
  decreasing_by
  simp only [not_or, Nat.not_lt] at _h
  exact Nat.div_lt_self (by omega) (by omega)
def baseT (b : Nat) (n : Int) : List UInt8 := if n < 0 then 45 :: digsB b n.natAbs else digsB b n.toNat
def numT (b : Nat) (n : Int) : List UInt8 := if n = 0 then [] else baseT b n
theorem digsB_small {b u : Nat} (h : u < b) : digsB b u = [digC u] := by rw [digsB, dif_pos (.inl h)]
theorem digsB_big {b u : Nat} (hb : 2 ≤ b) (h : b ≤ u) : digsB b u = digsB b (u / b) ++ [digC (u % b)] := by rw [digsB, dif_neg (by omega)]
theorem digsB_dec : ∀ u : Nat, digsB 10 u = Lib.decDigits u := by
  intro u
  induction u using Nat.strongRecOn with
  | _ u ih =>
    by_cases h : u < 10
    · rw [digsB_small h, Lib.decDigits, dif_pos h]; rfl
    · rw [digsB_big (by omega) (by omega), Lib.decDigits, dif_neg h, ih _ (by omega)]; rfl
theorem baseT_itoa (n : Int) : baseT 10 n = Lib.itoa n := by
  unfold baseT Lib.itoa; rw [digsB_dec, digsB_dec]

/-- The value of digits. -/
def valB (b : Nat) (l : List UInt8) : Int := l.foldl (fun n c => n * b + ((c.toNat : Int) - 48)) 0
theorem valB_snoc (b : Nat) (l : List UInt8) (c : UInt8) : valB b (l ++ [c]) = valB b l * b + ((c.toNat : Int) - 48) := by simp [valB]
theorem digC_toNat {d : Nat} (h : d < 10) : (digC d).toNat = 48 + d := by
  rw [digC, UInt8.toNat_ofNat']; omega
theorem digsB_spec {b : Nat} (hb : 2 ≤ b) (hb2 : b ≤ 10) : ∀ u : Nat, valB b (digsB b u) = u ∧ (∀ c ∈ digsB b u, 48 ≤ c.toNat ∧ c.toNat < 48 + b) ∧ digsB b u ≠ [] ∧ (∀ k : Nat, 1 ≤ k → u < b ^ k → (digsB b u).length ≤ k) := by
  intro u
  induction u using Nat.strongRecOn with
  | _ u ih =>
    by_cases h : u < b
    · have hd := digC_toNat (d := u) (by omega)
      rw [digsB_small h]
      refine ⟨by simp [valB, hd]; omega, by simp [hd]; omega, by simp, fun k hk _ => by simp; omega⟩
    · have hlt : u / b < u := Nat.div_lt_self (by omega) (by omega)
      have hm : u % b < b := Nat.mod_lt _ (by omega)
      have hd := digC_toNat (d := u % b) (by omega)
      obtain ⟨h1, h2, h3, h4⟩ := ih _ hlt
      rw [digsB_big hb (by omega)]
      refine ⟨?_, ?_, by simp, fun k hk hlt2 => ?_⟩
      · rw [valB_snoc, h1, hd]
        have := Nat.div_add_mod u b
        have e : ((u / b : Nat) : Int) * b = ((b * (u / b) : Nat) : Int) := by rw [Int.natCast_mul, Int.mul_comm]
        rw [e]; omega
      · intro c hc
        rcases List.mem_append.1 hc with hc | hc
        · exact h2 c hc
        · simp at hc; subst hc; omega
      · have hk1 : k ≠ 1 := fun e => by subst e; simp at hlt2; omega
        have := h4 (k - 1) (by omega) (by
          rw [Nat.div_lt_iff_lt_mul (by omega)]
          have : b ^ (k - 1) * b = b ^ k := by rw [← Nat.pow_succ]; congr 1; omega
          omega)
        simp; omega
theorem digsB_head {b : Nat} (hb : 2 ≤ b) (hb2 : b ≤ 10) : ∀ u : Nat, u ≠ 0 → ∀ c r, digsB b u = c :: r → c ≠ 48 := by
  intro u
  induction u using Nat.strongRecOn with
  | _ u ih =>
    intro h0 c r he
    by_cases h : u < b
    · rw [digsB_small h] at he
      cases he
      intro e
      have := congrArg UInt8.toNat e
      rw [digC_toNat (by omega)] at this
      have e2 : (48 : UInt8).toNat = 48 := rfl
      omega
    · rw [digsB_big hb (by omega)] at he
      have hne := (digsB_spec hb hb2 (u / b)).2.2.1
      obtain ⟨c', r', hd⟩ := List.exists_cons_of_ne_nil hne
      rw [hd] at he
      simp at he
      rw [← he.1]
      refine ih _ (Nat.div_lt_self (by omega) (by omega)) (fun e => ?_) c' r' hd
      have := Nat.div_eq_zero_iff.1 e
      omega

/-- What is no newline: digits and the sign. -/
theorem baseT_chars {b : Nat} (hb : 2 ≤ b) (hb2 : b ≤ 10) (n : Int) : ∀ c ∈ baseT b n, c = 45 ∨ (48 ≤ c.toNat ∧ c.toNat < 58) := by
  intro c hc
  unfold baseT at hc
  split at hc
  · rcases List.mem_cons.1 hc with rfl | hc
    · exact .inl rfl
    · have := (digsB_spec hb hb2 _).2.1 c hc; right; omega
  · have := (digsB_spec hb hb2 _).2.1 c hc; right; omega
theorem baseT_ne {b : Nat} (hb : 2 ≤ b) (hb2 : b ≤ 10) (n : Int) : baseT b n ≠ [] := by
  unfold baseT; split
  · simp
  · exact (digsB_spec hb hb2 _).2.2.1
end Go.Ab
namespace Go.Ab
open Go Go.Proofs Go.Sort
theorem splitL_eq (s : List UInt8) (c : UInt8) : splitL s c = splitC c s := by
  have h := Lib.splitB_data ⟨#[c]⟩ 0 (Lib.countB ⟨s.toArray⟩ ⟨#[c]⟩) ⟨s.toArray⟩
  have e : Lib.countB ⟨s.toArray⟩ ⟨#[c]⟩ = Lib.count s [c] := by simp [Lib.countB]
  rw [splitL, h, e]
  exact splitK_eq c _ s (Nat.le_refl _)
theorem splitC_len {c : UInt8} {B : Nat} : ∀ {s : List UInt8}, (∀ x ∈ splitC c s, x.length ≤ B) → s.length + 1 ≤ (splitC c s).length * (B + 1)
  | [], _ => by simp [splitC]
  | x :: r, h => by
    unfold splitC at h ⊢
    split at h
    · rename_i e
      rw [if_pos e]
      have := splitC_len (c := c) (s := r) fun y hy => h y (by simp [hy])
      simp only [List.length_cons, Nat.add_mul]; omega
    · rename_i e
      rw [if_neg e]
      split at h
      · rename_i a l hl
        have h1 := h (x :: a) (by simp)
        have key : ∀ (s : List UInt8) (a : List UInt8) (l : List (List UInt8)), splitC c s = a :: l → (∀ y ∈ l, y.length ≤ B) → s.length ≤ a.length + l.length * (B + 1) := by
          intro s
          induction s with
          | nil => intro a l hs _; simp
          | cons y s ih =>
            intro a l hs hall
            unfold splitC at hs
            split at hs
            · simp only [List.cons.injEq] at hs
              obtain ⟨rfl, rfl⟩ := hs
              obtain ⟨a', l', hs'⟩ := List.exists_cons_of_ne_nil (splitC_ne c s)
              rw [hs'] at hall
              have := ih a' l' hs' fun y hy => hall y (by simp [hy])
              have h2 := hall a' (by simp)
              rw [hs']
              simp only [List.length_cons, List.length_nil, Nat.add_mul]; omega
            · split at hs
              · rename_i a' l' hs'
                simp only [List.cons.injEq] at hs
                obtain ⟨rfl, rfl⟩ := hs
                have := ih a' l' hs' hall
                simp only [List.length_cons]; omega
              · rename_i hs'; exact absurd hs' (splitC_ne c s)
        have := key r a l hl fun y hy => h y (by simp [hy])
        simp only [List.length_cons, Nat.add_mul] at h1 ⊢; omega
      · rename_i hl; exact absurd hl (splitC_ne c r)
theorem valid_small {s : List UInt8} (h : validB s = true) : s.length ≤ 32 := by
  unfold validB at h
  simp only [Bool.and_eq_true, decide_eq_true_eq] at h
  exact h.1.1.2
theorem path_small {s : List UInt8} (h : placeB s = true) : s.length ≤ 240 := by
  unfold placeB at h
  split at h
  · rename_i l hl
    simp only [decide_eq_true_eq] at h
    unfold pathL at hl
    split at hl
    · cases hl
    · rename_i c r
      split at hl
      · rename_i hc
        simp only [Option.some.injEq] at hl
        have h2 := List.all_eq_true.1 hc.2
        rw [hl] at h2
        rw [splitL_eq] at hl
        have := splitC_len (c := 47) (B := 32) (s := r) fun x hx => valid_small (h2 x (hl ▸ hx))
        rw [hl] at this
        have h3 : l.length * 33 ≤ 7 * 33 := Nat.mul_le_mul_right _ h
        simp only [List.length_cons]; omega
      · cases hl
  · cases h
end Go.Ab
namespace Go.Ab
open Go Go.Proofs
def cmpS (a b : List UInt8) : Int := if a < b then -1 else if a = b then 0 else 1
def cmpL : List (List UInt8) → List (List UInt8) → Int
  | [], [] => 0
  | [], _ :: _ => -1
  | _ :: _, [] => 1
  | x :: r, y :: s => if cmpS x y = 0 then cmpL r s else cmpS x y
theorem cmpS_bd (a b : List UInt8) : -1 ≤ cmpS a b ∧ cmpS a b ≤ 1 := by
  unfold cmpS
  repeat' split
  all_goals omega
theorem isNan_c (a : List UInt8) : ACalls Tryz.prog 157 [.str a] [] (.bool false) [] := by
  refine acalls_F c157_ok rfl ?_
  unfold c157
  simp +decide -dsimp -implicitDefEqProofs [go_sem]
theorem cmpS_c (a b : List UInt8) : ACalls Tryz.prog 187 [.str a, .str b] [] (.int .i64 (cmpS a b)) [] := by
  have e : Op.bytesLess a b = decide (a < b) := bytesLess_eq a b
  refine acalls_F c187_ok rfl ?_
  unfold c187
  simp +decide -dsimp -implicitDefEqProofs [go_sem]
  refine callE_pure (isNan_c a) rfl rfl ?_
  simp +decide -dsimp -implicitDefEqProofs [go_sem]
  refine callE_pure (isNan_c b) rfl rfl ?_
  by_cases h : a < b
  · simp +decide -dsimp -implicitDefEqProofs [go_sem, e, h, cmpS]
  · by_cases h2 : a = b
    · subst h2
      simp +decide -dsimp -implicitDefEqProofs [go_sem, e, h, cmpS]
    · simp +decide -dsimp -implicitDefEqProofs [go_sem, e, h, h2, cmpS]
theorem cmpLs_c (l m : List (List UInt8)) (hl : l.length < 1000000) (_hm : m.length < 1000000) : ACalls Tryz.prog 139 [.imm (l.map sRow), .imm (m.map sRow)] [] (.int .i64 (cmpL l m)) [] := by
  refine acalls_F c139_ok rfl ?_
  unfold c139
  simp +decide -dsimp -implicitDefEqProofs [go_sem]
  refine loop_of (S := Nat) (fun i => ⟨tmps 36 [(0, .imm (l.map sRow)), (1, .imm (m.map sRow)), (9, .imm (l.map sRow)), (10, .int .i64 l.length), (11, .int .i64 i)], []⟩) (fun i => l.length - i)
    (fun i => i ≤ l.length ∧ i ≤ m.length ∧ cmpL l m = cmpL (l.drop i) (m.drop i)) 0 (by simp) (cut_of (by simp) ?_) ?_
  · simp +decide -dsimp -implicitDefEqProofs [go_sem]
  rintro i ⟨hi, hj, hc⟩
  by_cases h : i < l.length
  · have hdl : l.drop i = l[i] :: l.drop (i + 1) := List.drop_eq_getElem_cons h
    have w : IntKind.i64.wrap ((i : Int) + 1) = i + 1 := w64 (by omega) (by omega)
    by_cases h2 : i < m.length
    · have hdm : m.drop i = m[i] :: m.drop (i + 1) := List.drop_eq_getElem_cons h2
      have h3 : ¬ m.length ≤ i := by omega
      rw [hdl, hdm, cmpL] at hc
      have cs := cmpS_c l[i] m[i]
      simp +decide -dsimp -implicitDefEqProofs [go_sem, h, h2, h3]
      refine callE_pure cs rfl rfl ?_
      by_cases h0 : cmpS l[i] m[i] = 0
      · rw [if_pos h0] at hc
        simp +decide -dsimp -implicitDefEqProofs [go_sem, h0, w]
        refine next_of (i + 1) ⟨by omega, by omega, hc⟩ (by show l.length - (i + 1) < l.length - i; omega) (cut_of (by simp) ?_)
        simp +decide -dsimp -implicitDefEqProofs [go_sem]
      · rw [if_neg h0] at hc
        simp +decide -dsimp -implicitDefEqProofs [go_sem, h0, hc]
    · have h3 : m.length ≤ i := by omega
      have hdm : m.drop i = [] := List.drop_eq_nil_of_le h3
      rw [hdl, hdm, cmpL] at hc
      simp +decide -dsimp -implicitDefEqProofs [go_sem, h, h3, hc]
  · have e : i = l.length := by omega
    subst e
    rw [List.drop_length] at hc
    by_cases h2 : l.length < m.length
    · have hdm : m.drop l.length = m[l.length] :: m.drop (l.length + 1) := List.drop_eq_getElem_cons h2
      rw [hdm, cmpL] at hc
      simp +decide -dsimp -implicitDefEqProofs [go_sem, h2, hc]
    · have hdm : m.drop l.length = [] := List.drop_eq_nil_of_le (by omega)
      rw [hdm, cmpL] at hc
      simp +decide -dsimp -implicitDefEqProofs [go_sem, h2, hc]
/-- The names of a path. -/
def compsP (p : List UInt8) : List (List UInt8) := (pathL p).getD []
def cmpP (a b : List UInt8) : Int := cmpL (compsP a) (compsP b)
theorem comps_some {p : List UInt8} (h : placeB p = true) : pathL p = some (compsP p) ∧ (compsP p).length ≤ 7 := by
  unfold placeB at h
  unfold compsP
  cases e : pathL p with
  | none => rw [e] at h; cases h
  | some l => rw [e] at h; exact ⟨rfl, by simpa using h⟩
theorem nCompare_c (a b : List UInt8) (ha : placeB a = true) (hb : placeB b = true) : ACalls Tryz.prog 100 [.str a, .str b] [] (.tup [.int .i64 (cmpP a b), .int .i64 0]) [] := by
  obtain ⟨ea, la⟩ := comps_some ha
  obtain ⟨eb, lb⟩ := comps_some hb
  have ca := nSplit_c a (by have := path_small ha; omega)
  have cb := nSplit_c b (by have := path_small hb; omega)
  rw [ea] at ca
  rw [eb] at cb
  have cc := cmpLs_c (compsP a) (compsP b) (by omega) (by omega)
  refine acalls_F c100_ok rfl ?_
  unfold c100
  simp +decide -dsimp -implicitDefEqProofs [go_sem]
  refine callE_pure ca rfl (by simp +decide -dsimp -implicitDefEqProofs [go_sem]) ?_
  simp +decide -dsimp -implicitDefEqProofs [go_sem]
  refine callE_pure cb rfl (by simp +decide -dsimp -implicitDefEqProofs [go_sem]) ?_
  simp +decide -dsimp -implicitDefEqProofs [go_sem]
  refine callE_pure cc (by simp +decide -dsimp -implicitDefEqProofs [go_sem]) rfl ?_
  simp +decide -dsimp -implicitDefEqProofs [go_sem, cmpP]
end Go.Ab
namespace Go.Ab
open Go Go.Proofs Go.Sort
def joinP : List (List UInt8) → List UInt8
  | [] => []
  | x :: r => 47 :: (x ++ joinP r)
theorem join_split : ∀ s : List UInt8, joinP (splitC 47 s) = 47 :: s
  | [] => rfl
  | x :: r => by
    have ih := join_split r
    unfold splitC
    by_cases h : x = 47
    · subst h; rw [if_pos rfl, joinP, ih]; rfl
    · rw [if_neg h]
      have hne := splitC_ne 47 r
      cases e : splitC 47 r with
      | nil => exact absurd e hne
      | cons a l =>
        rw [e] at ih
        simp only [joinP, List.cons.injEq, true_and] at ih ⊢
        rw [← ih]; rfl
theorem pathL_join {p : List UInt8} {l : List (List UInt8)} (h : pathL p = some l) : p = joinP l := by
  cases p with
  | nil => cases h
  | cons c r =>
    simp only [pathL] at h
    split at h
    · rename_i h2
      obtain ⟨rfl, _⟩ := h2
      cases h
      rw [splitL_eq, join_split]
    · cases h
theorem cmpS_lt (a b : List UInt8) : cmpS a b < 0 ↔ a < b := by
  unfold cmpS
  by_cases h : a < b
  · simp [h]
  · by_cases h2 : a = b
    · subst h2; simp [h]
    · simp [h, h2]
theorem cmpS_eq (a b : List UInt8) : cmpS a b = 0 ↔ a = b := by
  unfold cmpS
  by_cases h : a < b
  · have : a ≠ b := fun e => by subst e; exact List.lt_irrefl _ h
    simp [h, this]
  · by_cases h2 : a = b
    · subst h2; simp [h]
    · simp [h, h2]
theorem cmpL_eq : ∀ (l m : List (List UInt8)), cmpL l m = 0 ↔ l = m
  | [], [] => by simp [cmpL]
  | [], _ :: _ => by simp [cmpL]
  | _ :: _, [] => by simp [cmpL]
  | x :: r, y :: s => by
    rw [cmpL]
    by_cases h : cmpS x y = 0
    · rw [if_pos h, cmpL_eq r s]
      rw [cmpS_eq] at h
      simp [h]
    · rw [if_neg h]
      have h2 : x ≠ y := fun e => h ((cmpS_eq x y).2 e)
      simp [h, h2]
theorem cmpL_lt : ∀ (l m : List (List UInt8)), cmpL l m < 0 ↔ l < m
  | [], [] => by simp [cmpL]
  | [], _ :: _ => by simp [cmpL]
  | _ :: _, [] => by simp [cmpL]
  | x :: r, y :: s => by
    rw [cmpL, List.cons_lt_cons_iff]
    by_cases h : cmpS x y = 0
    · rw [if_pos h, cmpL_lt r s]
      rw [cmpS_eq] at h
      subst h
      simp [List.lt_irrefl]
    · rw [if_neg h, cmpS_lt]
      have h2 : x ≠ y := fun e => h ((cmpS_eq x y).2 e)
      simp [h2]
theorem comps_inj {p q : List UInt8} (hp : placeB p = true) (hq : placeB q = true) (h : compsP p = compsP q) : p = q := by
  have h1 := pathL_join (comps_some hp).1
  have h2 := pathL_join (comps_some hq).1
  rw [h1, h2, h]
def ltP (p q : List UInt8) : Bool := decide (cmpP p q < 0)
theorem swo_ltP : SWO ltP where
  irrefl x := by simp [ltP, cmpP, cmpL_lt, List.lt_irrefl]
  trans x y z h1 h2 := by simp only [ltP, cmpP, cmpL_lt, decide_eq_true_eq] at *; exact List.lt_trans h1 h2
  ntrans x y z h1 h2 := by
    simp only [ltP, cmpP, cmpL_lt, decide_eq_false_iff_not, List.not_lt] at *
    exact List.le_trans h2 h1
theorem cmpP_ntot {p q : List UInt8} (hp : placeB p = true) (hq : placeB q = true) (h1 : ¬ cmpP p q < 0) (h2 : ¬ cmpP q p < 0) : p = q := by
  simp only [cmpP, cmpL_lt, List.not_lt] at h1 h2
  exact comps_inj hp hq (List.le_antisymm h2 h1)
/-- Two lists that ascend strictly and have the same members are one. -/
theorem asc_ext {α : Type} {R : α → α → Prop} (ha : ∀ a b, R a b → ¬ R b a) : ∀ {l l' : List α}, l.Pairwise R → l'.Pairwise R → (∀ x, x ∈ l ↔ x ∈ l') → l = l'
  | [], [], _, _, _ => rfl
  | [], b :: l', _, _, h => absurd ((h b).2 (List.mem_cons_self ..)) (by simp)
  | a :: l, [], _, _, h => absurd ((h a).1 (List.mem_cons_self ..)) (by simp)
  | a :: l, b :: l', h1, h2, h => by
    rw [List.pairwise_cons] at h1 h2
    have e : a = b := by
      rcases List.mem_cons.1 ((h a).1 (List.mem_cons_self ..)) with e | e
      · exact e
      · rcases List.mem_cons.1 ((h b).2 (List.mem_cons_self ..)) with e2 | e2
        · exact e2.symm
        · exact absurd (h1.1 b e2) (ha _ _ (h2.1 a e))
    subst e
    have na : ∀ {m : List α}, (∀ x ∈ m, R a x) → a ∉ m := fun hm hx => ha _ _ (hm a hx) (hm a hx)
    have n1 := na h1.1
    have n2 := na h2.1
    rw [asc_ext ha h1.2 h2.2 fun x => ⟨fun hx => ?_, fun hx => ?_⟩]
    · rcases List.mem_cons.1 ((h x).1 (List.mem_cons_of_mem _ hx)) with rfl | h3
      · exact absurd hx n1
      · exact h3
    · rcases List.mem_cons.1 ((h x).2 (List.mem_cons_of_mem _ hx)) with rfl | h3
      · exact absurd hx n2
      · exact h3
end Go.Ab
namespace Go.Ab
open Go Go.Proofs
theorem smK_cl {β : Type} (k : Nat) (f : β → AV) (hf : ∀ x, closed k (f x) = true) (m : SMap β) : ((smK f m).all fun p => closed k p.1 && closed k p.2) = true := by
  refine List.all_eq_true.2 fun p hp => ?_
  obtain ⟨o, _, rfl⟩ := List.mem_map.1 hp
  cases o with
  | none => rfl
  | some q => simp [kvRow, closed, hf]
theorem smK_clm {β : Type} {k : Nat} {f : β → AV} (hf : ∀ x, closed k (f x) = true) {m : SMap β} : ∀ a b : AV, (a, b) ∈ smK f m → closed k a = true ∧ closed k b = true := fun a b h => by
  have := List.all_eq_true.1 (smK_cl k f hf m) (a, b) h
  simpa using this
end Go.Ab
namespace Go.Ab
open Go Go.Proofs Go.Sort
theorem nodup_le : ∀ (n : Nat) (l : List Nat), l.Nodup → (∀ x ∈ l, x < n) → l.length ≤ n
  | 0, l, _, h => by
    cases l with
    | nil => simp
    | cons x r => have := h x (by simp); omega
  | n + 1, l, hn, h => by
    have h1 := nodup_le n (l.erase n) (hn.erase n) fun x hx => by
      have h2 := (hn.mem_erase_iff).1 hx
      have := h x h2.2
      omega
    have h3 : l.length ≤ (l.erase n).length + 1 := by rw [List.length_erase]; split <;> omega
    omega
theorem vis_lt {n : Nat} {vis : List Nat} {j : Nat} (h1 : vis.Nodup) (h2 : ∀ x ∈ vis, x < n) (hj : j < n) (hn : j ∉ vis) : (vis ++ [j]).length ≤ n := by
  refine nodup_le n _ ?_ fun x hx => ?_
  · rw [List.nodup_append]
    refine ⟨h1, by simp, fun a ha b hb => ?_⟩
    simp at hb; subst hb
    exact fun e => hn (e ▸ ha)
  · rcases List.mem_append.1 hx with hx | hx
    · exact h2 x hx
    · simp at hx; omega
theorem at_some {β : Type} {k : List UInt8} {v : β} : ∀ {m : SMap β} {j : Nat}, m[j]? = some (some (k, v)) → getS k m ≠ none
  | [], j, h => by simp at h
  | none :: r, 0, h => by simp at h
  | none :: r, j + 1, h => by simpa [getS] using at_some (m := r) (j := j) (by simpa using h)
  | some p :: r, 0, h => by simp at h; subst h; simp [getS]
  | some p :: r, j + 1, h => by
    have := at_some (m := r) (j := j) (by simpa using h)
    simp only [getS]
    split
    · simp
    · exact this
theorem two_at {β : Type} {k : List UInt8} {v w : β} : ∀ {m : SMap β} {i j : Nat}, oneS' m → m[i]? = some (some (k, v)) → m[j]? = some (some (k, w)) → i = j
  | [], i, j, _, h, _ => by simp at h
  | none :: r, 0, _, _, h, _ => by simp at h
  | none :: r, _ + 1, 0, _, _, h => by simp at h
  | none :: r, i + 1, j + 1, ho, h1, h2 => by rw [two_at (m := r) (i := i) (j := j) ho (by simpa using h1) (by simpa using h2)]
  | some p :: r, 0, 0, _, _, _ => rfl
  | some p :: r, 0, j + 1, ho, h1, h2 => by
    simp at h1; subst h1
    exact absurd ho.1 (at_some (m := r) (j := j) (by simpa using h2))
  | some p :: r, i + 1, 0, ho, h1, h2 => by
    simp at h2; subst h2
    exact absurd ho.1 (at_some (m := r) (j := i) (by simpa using h1))
  | some p :: r, i + 1, j + 1, ho, h1, h2 => by rw [two_at (m := r) (i := i) (j := j) ho.2 (by simpa using h1) (by simpa using h2)]
theorem smK_nil {β : Type} (f : β → AV) : smK f ([] : SMap β) = [] := rfl
theorem own0_raw {P : Program} {f e sz : Nat} {R : AV → List AObj → Prop} (h : ∀ a cp, ACallsR P f [.raw (.slice a 0 cp)] [.reg e sz []] R) : ACallsR P f [.own 0 0] [.reg e sz []] R := by
  refine ⟨(h none 0).1, fun c vs hH hr hv => ?_⟩
  simp only [Vals] at hv
  obtain ⟨v, vs', rfl, hv, rfl⟩ := hv
  obtain ⟨a, cp, rfl⟩ := own_slice hr hv (by rw [hH]; rfl) rfl
  exact (h a cp).2 c _ hH hr (by simp only [Vals]; exact ⟨_, _, rfl, by simp [Val], rfl⟩)
theorem acalls_WU {P : Program} {own : List Nat} {f : Nat} {fn : AFn} {xs : List AV} {H : List AObj} (n : Nat) (R : AV → List AObj → Prop) (hf : compileF P own f = some fn)
    (h : awpF P H.length fn.body (retW H.length fn.res R) ⟨xs ++ List.replicate (fn.nt - xs.length) .junk, H ++ List.replicate n .unborn⟩) : ACallsR P f xs H R :=
  acalls_WA R hf (awp_wk (Wk.pushN n) (awpF_sound h))
theorem smK_ren (is : List Nat) {β : Type} (f : β → AV) (hf : ∀ x, ren is (f x) = f x) (m : SMap β) : renKv is (smK f m) = smK f m := by
  rw [renKv_map]
  simp only [smK, List.map_map]
  refine List.map_congr_left fun o _ => ?_
  cases o with
  | none => rfl
  | some p => simp [kvRow, ren, hf]
end Go.Ab
