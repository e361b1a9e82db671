/- A layer of abstract values over the model, and what is proved with it: part W2. -/
import Derived.Test.YtgpikicifpjffaaDoorA7
import Derived.Test.YtgpikicifpjffaaDoorC1
import Derived.Test.YtgpikicifpjffaaDoorC2
import Derived.Below
import Derived.Test.YtgpikicifpjffaaDoorW1
namespace Go.Ab
open Go Go.Proofs
def bB (bs : List Bool) : List AV := bs.map .bool
theorem bB_len (bs : List Bool) : (bB bs).length = bs.length := by simp [bB]
theorem zB_eq : zB = bB (List.replicate 256 false) := by rw [zB, bB, List.map_replicate]
theorem bB_take (bs : List Bool) (n : Nat) (h : bs.length ≤ n) : (bB bs).take n = bB bs := by rw [List.take_of_length_le (by rw [bB_len]; exact h)]
theorem bB_drop (bs : List Bool) (n : Nat) (h : n < bs.length) : (bB bs).drop n = .bool bs[n] :: (bB bs).drop (n + 1) := by
  rw [List.drop_eq_getElem_cons (by rw [bB_len]; exact h)]; simp [bB]
theorem bB_closed (k : Nat) (bs : List Bool) : closedL k (bB bs) = true := by
  induction bs with
  | nil => rfl
  | cons b r ih => simp only [bB, List.map_cons, closedL, closed, Bool.true_and]; exact ih
theorem bB_cvT (H : List AObj) (m : Nat) (bs : List Bool) : cvT H m (bB bs) (bB bs) := by
  induction bs with
  | nil => trivial
  | cons b r ih => exact ⟨.inr (.inl ⟨rfl, rfl⟩), ih⟩
theorem bB_set (bs : List Bool) (n : Nat) (b : Bool) (h : n < bs.length) : (bB bs).take n ++ [.bool b] ++ (bB bs).drop (n + 1) = bB (bs.set n b) := by
  simp only [bB, ← List.map_take, ← List.map_drop]
  rw [List.set_eq_take_append_cons_drop, if_pos h]; simp
theorem ldK_bB {bs : List Bool} {n : Nat} {K : AV → Prop} (h : n < bs.length) : ldK none ((bB bs).drop n) K = K (.bool bs[n]) := by rw [bB_drop bs n h]; rfl
def plusL (bs : List Bool) (s : List UInt8) : List Bool := s.foldl (fun b c => b.set c.toNat true) bs
theorem plusL_len (s : List UInt8) : ∀ bs : List Bool, (plusL bs s).length = bs.length := by
  induction s with
  | nil => intro bs; rfl
  | cons c r ih => intro bs; simp only [plusL, List.foldl_cons]; rw [← plusL, ih]; simp
theorem plusL_take {bs : List Bool} {s : List UInt8} {i : Nat} (h : i < s.length) : plusL bs (s.take (i + 1)) = (plusL bs (s.take i)).set s[i].toNat true := by
  rw [List.take_succ_eq_append_getElem h]; simp only [plusL, List.foldl_append, List.foldl_cons, List.foldl_nil]
theorem plusL_at (s : List UInt8) : ∀ (bs : List Bool) (c : UInt8), bs.length = 256 → (plusL bs s)[c.toNat]? = some (bs[c.toNat]?.getD false || decide (c ∈ s)) := by
  induction s with
  | nil => intro bs c h; have := UInt8.toNat_lt c; simp [plusL, List.getElem?_eq_getElem (show c.toNat < bs.length by omega)]
  | cons d r ih =>
    intro bs c h
    simp only [plusL, List.foldl_cons]
    rw [← plusL, ih _ _ (by simpa using h)]
    have hl := UInt8.toNat_lt c
    have hl := UInt8.toNat_lt d
    by_cases hcd : d = c
    · subst hcd; simp [show d.toNat < bs.length by omega]
    · have : d.toNat ≠ c.toNat := fun e => hcd (UInt8.toNat_inj.1 e)
      have hcd' : ¬ c = d := fun e => hcd e.symm
      simp [List.getElem?_set_ne this, hcd']

set_option maxRecDepth 20000 in
theorem plus_c (bs : List Bool) (s : List UInt8) (h256 : bs.length = 256) (hl : s.length < 1000000000) :
    ACalls Tryd.prog 56 [.agg (bB bs), .str s] [] (.agg (bB (plusL bs s))) [] := by
  refine acalls_F c56_ok rfl ?_
  unfold c56
  simp +decide -dsimp -implicitDefEqProofs [go_sem]
  refine loop_of (S := Nat) (fun i => ⟨tmps 17 [(1, .str s), (2, .ptr 0 0), (4, .ptr 1 0), (7, .int .i64 s.length), (8, .int .i64 i)], [.box (bB (plusL bs (s.take i))), .box zB]⟩) (fun i => s.length - i) (fun i => i ≤ s.length) 0 (by simp) (cut_of (by simp) ?_) ?_
  · simp +decide -dsimp -implicitDefEqProofs [go_sem, plusL, bB_cvT, zB_eq]
  intro i hi
  have hp : (plusL bs (s.take i)).length = 256 := by rw [plusL_len, h256]
  by_cases h : i < s.length
  · have w : IntKind.i64.wrap ((i : Int) + 1) = i + 1 := w64 (by omega) (by omega)
    have hc := UInt8.toNat_lt s[i]
    have e := bB_set (plusL bs (s.take i)) s[i].toNat true (by omega)
    rw [← plusL_take h] at e
    simp only [List.append_assoc, List.cons_append, List.nil_append] at e
    simp +decide -dsimp -implicitDefEqProofs [go_sem, h, w, hp, bB_len, hc, e]
    refine ⟨by omega, ?_⟩
    refine next_of (i + 1) (by omega) (by omega) (cut_of (by simp) ?_)
    simp +decide -dsimp -implicitDefEqProofs [go_sem, bB_cvT, zB_eq]
  · have e : i = s.length := by omega
    subst e
    have t1 : ∀ bs : List Bool, bs.length = 256 → (bB bs).take 256 = bB bs := fun bs h => bB_take bs 256 (by omega)
    have t2 : ∀ bs : List Bool, bs.length = 256 → (bB bs).drop 256 = [] := fun bs h => List.drop_eq_nil_of_le (by rw [bB_len]; omega)
    rw [List.take_length] at hp
    simp +decide -dsimp -implicitDefEqProofs [go_sem, hp, bB_len, t1, t2, zB_eq, bB_cvT]
end Go.Ab
namespace Go.Ab
open Go Go.Proofs
def okName : List UInt8 := "ABCDEFGHIJKLMNOPQRSTUVWXYZabcdefghijklmnopqrstuvwxyz0123456789_.:+-!".toUTF8.toList
theorem dots_c (s : List UInt8) : ACalls Tryd.prog 54 [.str s] [] (.bool (decide (s = [46] ∨ s = [46, 46]))) [] := by
  refine acalls_F c54_ok rfl ?_
  unfold c54
  by_cases h1 : s = [46]
  · simp +decide -dsimp -implicitDefEqProofs [go_sem, h1]
  · by_cases h2 : s = [46, 46]
    · simp +decide -dsimp -implicitDefEqProofs [go_sem, h2]
    · simp +decide -dsimp -implicitDefEqProofs [go_sem, h1, h2]

set_option maxRecDepth 20000 in
theorem has_c (bs : List Bool) (s : List UInt8) (h256 : bs.length = 256) (hl : s.length < 1000000000) :
    ACalls Tryd.prog 57 [.agg (bB bs), .str s] [] (.bool (s.all fun c => bs[c.toNat]?.getD false)) [] := by
  refine acalls_F c57_ok rfl ?_
  unfold c57
  simp +decide -dsimp -implicitDefEqProofs [go_sem]
  refine loop_of (S := Nat) (fun i => ⟨tmps 18 [(1, .str s), (2, .ptr 0 0), (7, .int .i64 s.length), (8, .int .i64 i)], [.box (bB bs)]⟩) (fun i => s.length - i) (fun i => i ≤ s.length ∧ ∀ x ∈ s.take i, bs[x.toNat]?.getD false = true) 0 (by simp) (cut_of (by simp) ?_) ?_
  · simp +decide -dsimp -implicitDefEqProofs [go_sem, bB_cvT]
  intro i hi
  by_cases h : i < s.length
  · have w : IntKind.i64.wrap ((i : Int) + 1) = i + 1 := w64 (by omega) (by omega)
    have hc := UInt8.toNat_lt s[i]
    have hc2 : s[i].toNat < bs.length := by omega
    by_cases hb : bs[s[i].toNat] = true
    · simp +decide -dsimp -implicitDefEqProofs [go_sem, h, w, hc, hc2, ldK_bB, hb]
      refine next_of (i + 1) ⟨by omega, fun x hx => ?_⟩ (by omega) (cut_of (by simp) ?_)
      · rw [List.take_succ_eq_append_getElem h] at hx
        rcases List.mem_append.1 hx with hx | hx
        · exact hi.2 x hx
        · simp at hx; subst hx; simp [hc2, hb]
      simp +decide -dsimp -implicitDefEqProofs [go_sem, bB_cvT]
    · simp +decide -dsimp -implicitDefEqProofs [go_sem, h, w, hc, hc2, ldK_bB, hb]
      exact ⟨s[i], List.getElem_mem h, by simp [hc2, hb]⟩
  · have e : i = s.length := by omega
    have h2 := hi.2
    rw [e, List.take_length] at h2
    simp +decide -dsimp -implicitDefEqProofs [go_sem, h]
    intro x hx
    simpa using h2 x hx
end Go.Ab
namespace Go.Ab
open Go Go.Proofs
theorem ToLower_c (s : List UInt8) (hs : s.length ≤ 140737488355328) (ha : ∀ b ∈ s, b.toNat < 128) : ACalls Tryd.prog 60 [.str s] [] (.str (Lib.toLowerA s)) [] := by
  refine .of_below (by kernel_rfl) fun c vs hv => ?_
  simp only [Vals, Val] at hv
  obtain ⟨v, vs', rfl, rfl, rfl⟩ := hv
  refine (Tryd.strings_ToLower_ascii ⟨s.toArray⟩ c.w (by simpa [ByteArray.size] using hs) (fun j b hj => ha b (List.mem_of_getElem? (by simpa using hj)))).mono fun e w' h => ?_
  exact ⟨_, h.1, h.2, fun c' => by simp only [Val]⟩

theorem IndexByte_c (s : List UInt8) (b : UInt8) : ACalls Tryd.prog 61 [.str s, .int .u8 b.toNat] [] (.int .i64 (Lib.indexByte s b)) [] := by
  refine .of_below (by kernel_rfl) fun c vs hv => ?_
  simp only [Vals, Val] at hv
  obtain ⟨v, vs', rfl, rfl, v2, vs2, rfl, rfl, rfl⟩ := hv
  refine (Tryd.strings_IndexByte ⟨s.toArray⟩ b.toNat c.w).mono fun e w' h => ?_
  obtain ⟨h1, rfl⟩ := h
  refine ⟨_, h1, Go.RowKit.Below.refl _ _, fun c' => ?_⟩
  simp [Val]

theorem indexByte_neg (s : List UInt8) (b : UInt8) : -1 ≤ Lib.indexByte s b ∧ (Lib.indexByte s b < 0 ↔ b ∉ s) := by
  induction s with
  | nil => simp [Lib.indexByte]
  | cons x r ih =>
    simp only [Lib.indexByte, beq_iff_eq, List.mem_cons, not_or]
    by_cases h : x = b
    · simp [h]
    · have h' : ¬ b = x := fun e => h e.symm
      by_cases h2 : Lib.indexByte r b = -1
      · simp only [h, if_false, h2, if_true]; rw [h2] at ih; simp_all
      · simp only [h, if_false, h2]
        refine ⟨by omega, ?_⟩
        rw [← ih.2]; constructor
        · intro h3; omega
        · intro h3; omega

set_option maxRecDepth 20000 in
theorem rin_c (s t : List UInt8) (hl : s.length < 1000000000) : ACalls Tryd.prog 58 [.str s, .str t] [] (.bool (s.all fun c => decide (c ∈ t))) [] := by
  refine acalls_F c58_ok rfl ?_
  unfold c58
  simp +decide -dsimp -implicitDefEqProofs [go_sem]
  refine loop_of (S := Nat) (fun i => ⟨tmps 18 [(0, .str s), (1, .str t), (5, .int .i64 i)], []⟩) (fun i => s.length - i) (fun i => i ≤ s.length ∧ ∀ x ∈ s.take i, x ∈ t) 0 (by simp) (cut_of (by simp) ?_) ?_
  · simp +decide -dsimp -implicitDefEqProofs [go_sem]
  intro i hi
  by_cases h : i < s.length
  · have w : IntKind.i64.wrap ((i : Int) + 1) = i + 1 := w64 (by omega) (by omega)
    have hn := indexByte_neg t s[i]
    simp +decide -dsimp -implicitDefEqProofs [go_sem, h]
    refine callE_pure (IndexByte_c t s[i]) rfl rfl ?_
    by_cases hb : s[i] ∈ t
    · have h2 : ¬ Lib.indexByte t s[i] < 0 := fun e => hn.2.1 e hb
      simp +decide -dsimp -implicitDefEqProofs [go_sem, h2, w]
      refine next_of (i + 1) ⟨by omega, fun x hx => ?_⟩ (by omega) (cut_of (by simp) ?_)
      · rw [List.take_succ_eq_append_getElem h] at hx
        rcases List.mem_append.1 hx with hx | hx
        · exact hi.2 x hx
        · simp at hx; subst hx; exact hb
      simp +decide -dsimp -implicitDefEqProofs [go_sem]
    · have h2 : Lib.indexByte t s[i] < 0 := hn.2.2 hb
      simp +decide -dsimp -implicitDefEqProofs [go_sem, h2]
      exact ⟨s[i], List.getElem_mem h, hb⟩
  · have h2 := hi.2
    rw [show i = s.length by omega, List.take_length] at h2
    simp +decide -dsimp -implicitDefEqProofs [go_sem, h]
    intro x hx; exact h2 x hx
end Go.Ab
namespace Go.Ab
open Go Go.Proofs
def upperL : List UInt8 := [65, 66, 67, 68, 69, 70, 71, 72, 73, 74, 75, 76, 77, 78, 79, 80, 81, 82, 83, 84, 85, 86, 87, 88, 89, 90]
def digitsL : List UInt8 := [48, 49, 50, 51, 52, 53, 54, 55, 56, 57]
def setL : List UInt8 := [65, 66, 67, 68, 69, 70, 71, 72, 73, 74, 75, 76, 77, 78, 79, 80, 81, 82, 83, 84, 85, 86, 87, 88, 89, 90, 97, 98, 99, 100, 101, 102, 103, 104, 105, 106, 107, 108, 109, 110, 111, 112, 113, 114, 115, 116, 117, 118, 119, 120, 121, 122, 48, 49, 50, 51, 52, 53, 54, 55, 56, 57, 95, 46, 58, 43, 45, 33]
def falses : List Bool := List.replicate 256 false
def tblC : List Bool := plusL (plusL (plusL (plusL falses upperL) (Lib.toLowerA upperL)) digitsL) [95, 46, 58, 43, 45]
theorem falses_len : falses.length = 256 := List.length_replicate
theorem tblC_len : tblC.length = 256 := by simp only [tblC, plusL_len, falses_len]
theorem zB_f : zB = bB falses := zB_eq

theorem aggB_closed (k : Nat) (bs : List Bool) : closed k (.agg (bB bs)) = true := by simp only [closed]; exact bB_closed k bs
set_option maxRecDepth 20000 in
theorem common_c : ACalls Tryd.prog 55 [] [] (.agg (bB tblC)) [] := by
  refine acalls_F c55_ok rfl ?_
  unfold c55
  rw [zB_f]
  simp +decide -dsimp -implicitDefEqProofs [go_sem]
  refine callE_pure (plus_c falses upperL falses_len (by decide)) (by simp [closedL, bB_closed, closed]) (aggB_closed _ _) ?_
  simp +decide -dsimp -implicitDefEqProofs [go_sem]
  refine callE_pure (ToLower_c upperL (by decide) (by decide)) rfl rfl ?_
  simp +decide -dsimp -implicitDefEqProofs [go_sem]
  refine callE_pure (plus_c _ (Lib.toLowerA upperL) (by simp only [plusL_len, falses_len]) (by decide)) (by simp [closedL, bB_closed, closed]) (aggB_closed _ _) ?_
  simp +decide -dsimp -implicitDefEqProofs [go_sem]
  refine callE_pure (plus_c _ digitsL (by simp only [plusL_len, falses_len]) (by decide)) (by simp [closedL, bB_closed, closed]) (aggB_closed _ _) ?_
  simp +decide -dsimp -implicitDefEqProofs [go_sem]
  refine callE_pure (plus_c _ [95, 46, 58, 43, 45] (by simp only [plusL_len, falses_len]) (by decide)) (by simp [closedL, bB_closed, closed]) (aggB_closed _ _) ?_
  change cbv _ _ _
  have t1 : ∀ bs : List Bool, bs.length = 256 → (bB bs).take 256 = bB bs := fun bs h => bB_take bs 256 (by omega)
  have t2 : ∀ bs : List Bool, bs.length = 256 → (bB bs).drop 256 = [] := fun bs h => List.drop_eq_nil_of_le (by rw [bB_len]; omega)
  have e : plusL (plusL (plusL (plusL falses upperL) (Lib.toLowerA upperL)) digitsL) [95, 46, 58, 43, 45] = tblC := rfl
  rw [e]
  simp +decide -dsimp -implicitDefEqProofs [go_sem, bB_len, tblC_len, falses_len, t1, t2, bB_cvT]

/-- Which texts are names. -/
def validB (s : List UInt8) : Bool := decide (s ≠ []) && decide (s.length ≤ 32) && !decide (s = [46] ∨ s = [46, 46]) && s.all fun c => decide (c ∈ setL)

theorem tbl_at (c : UInt8) : (plusL tblC [33])[c.toNat]?.getD false = decide (c ∈ setL) := by
  have h0 : ∀ n : Nat, n < 256 → falses[n]?.getD false = false := fun n h => by rw [falses, List.getElem?_replicate, if_pos h]; rfl
  have hl := UInt8.toNat_lt c
  rw [plusL_at _ _ _ tblC_len, tblC, plusL_at _ _ _ (by simp only [plusL_len, falses_len]), plusL_at _ _ _ (by simp only [plusL_len, falses_len]), plusL_at _ _ _ (by simp only [plusL_len, falses_len]), plusL_at _ _ _ falses_len, h0 _ (by omega)]
  simp only [Option.getD_some, Bool.false_or]
  clear hl
  have key : ∀ n : Fin 256, (decide (UInt8.ofNat n ∈ upperL) || decide (UInt8.ofNat n ∈ Lib.toLowerA upperL) || decide (UInt8.ofNat n ∈ digitsL) || decide (UInt8.ofNat n ∈ [95, 46, 58, 43, 45]) || decide (UInt8.ofNat n ∈ ([33] : List UInt8))) = decide (UInt8.ofNat n ∈ setL) := by decide +kernel
  have := key ⟨c.toNat, UInt8.toNat_lt c⟩
  simpa only [UInt8.ofNat_toNat] using this

theorem nValid_c (s : List UInt8) : ACalls Tryd.prog 40 [.str s] [] (.bool (validB s)) [] := by
  refine acalls_F c40_ok rfl ?_
  unfold c40 validB
  by_cases h0 : s = []
  · subst h0; simp +decide -dsimp -implicitDefEqProofs [go_sem]
  by_cases h1 : s.length ≤ 32
  · have h1' : (s.length : Int) ≤ 32 := by omega
    simp +decide -dsimp -implicitDefEqProofs [go_sem, h0, h1, h1']
    refine callE_pure (dots_c s) rfl rfl ?_
    by_cases h2 : s = [46] ∨ s = [46, 46]
    · simp +decide -dsimp -implicitDefEqProofs [go_sem, h2]
      intro a b; exact absurd h2 (by simp [a, b])
    · simp +decide -dsimp -implicitDefEqProofs [go_sem, h2]
      refine callE_pure common_c rfl (aggB_closed _ _) ?_
      simp +decide -dsimp -implicitDefEqProofs [go_sem]
      refine callE_pure (plus_c tblC [33] tblC_len (by decide)) (by simp [closedL, bB_closed, closed]) (aggB_closed _ _) ?_
      simp +decide -dsimp -implicitDefEqProofs [go_sem]
      refine callE_pure (has_c _ s (by rw [plusL_len, tblC_len]) (by omega)) (by simp [closedL, bB_closed, closed]) rfl ?_
      simp +decide -dsimp -implicitDefEqProofs [go_sem, tbl_at]
      intro _; exact ⟨fun e => h2 (.inl e), fun e => h2 (.inr e)⟩
  · have h1' : ¬ (s.length : Int) ≤ 32 := by omega
    simp +decide -dsimp -implicitDefEqProofs [go_sem, h0, h1, h1']

theorem rValid_c (s : List UInt8) : ACalls Tryd.prog 41 [.str s] [] (.bool (validB s)) [] := by
  refine acalls_F c41_ok rfl ?_
  unfold c41 validB
  by_cases h0 : s = []
  · subst h0; simp +decide -dsimp -implicitDefEqProofs [go_sem]
  by_cases h1 : s.length ≤ 32
  · have h1' : (s.length : Int) ≤ 32 := by omega
    simp +decide -dsimp -implicitDefEqProofs [go_sem, h0, h1, h1']
    refine callE_pure (rin_c s setL (by omega)) rfl rfl ?_
    by_cases h2 : (s.all fun c => decide (c ∈ setL)) = true
    · by_cases h3 : s = [46]
      · subst h3; simp +decide -dsimp -implicitDefEqProofs [go_sem]
      · by_cases h4 : s = [46, 46]
        · subst h4; simp +decide -dsimp -implicitDefEqProofs [go_sem]
        · simp +decide -dsimp -implicitDefEqProofs [go_sem, h2, h3, h4]
    · simp +decide -dsimp -implicitDefEqProofs [go_sem, h2]
  · have h1' : ¬ (s.length : Int) ≤ 32 := by omega
    simp +decide -dsimp -implicitDefEqProofs [go_sem, h0, h1, h1']
end Go.Ab
namespace Go.Ab
open Go Go.Proofs
set_option maxRecDepth 20000 in
theorem filterP_c (l : List Ses) (p : Ses → Bool) (f : Nat) (hl : l.length < 1000000000) (hf : ∀ x : Ses, ACalls Tryd.prog f [.agg (sesR x)] [] (.bool (p x)) []) :
    ACalls Tryd.prog 36 [sesL l, .fn (.func f) [] []] [] (sesL (l.filter p)) [] := by
  refine acalls_F c36_ok rfl ?_
  unfold c36 sesL
  simp +decide -dsimp -implicitDefEqProofs [go_sem]
  refine loop_of (S := Nat) (fun i => ⟨tmps 23 [(0, .imm (l.map sesR)), (1, .fn (.func f) [] []), (5, .own 0 ((l.take i).filter p).length), (8, .imm (l.map sesR)), (9, .int .i64 l.length), (10, .int .i64 i)], [.reg 33 4 (((l.take i).filter p).map sesR)]⟩) (fun i => l.length - i) (fun i => i ≤ l.length) 0 (by simp) ?_ ?_
  · refine .trans (.nilT 5 33 4 rfl (by simp)) (cut_of (by simp) ?_)
    simp +decide -dsimp -implicitDefEqProofs [go_sem]
  intro i hi
  by_cases h : i < l.length
  · have w : IntKind.i64.wrap ((i : Int) + 1) = i + 1 := w64 (by omega) (by omega)
    have hn : ((l.take i).filter p).length ≤ l.length := Nat.le_trans (List.length_filter_le _ _) (by simp; omega)
    simp +decide -dsimp -implicitDefEqProofs [go_sem, h]
    refine callE_pure (hf l[i]) (by simp [go_sem]) rfl ?_
    by_cases hp : p l[i]
    · simp +decide -dsimp -implicitDefEqProofs [go_sem, hp, w, maxLen]
      refine ⟨by omega, ?_⟩
      refine next_of (i + 1) (by omega) (by omega) (cut_of (by simp) ?_)
      simp +decide -dsimp -implicitDefEqProofs [go_sem, filter_take h, hp]
    · simp +decide -dsimp -implicitDefEqProofs [go_sem, hp, w]
      refine next_of (i + 1) (by omega) (by omega) (cut_of (by simp) ?_)
      simp +decide -dsimp -implicitDefEqProofs [go_sem, filter_take h, hp]
  · simp +decide -dsimp -implicitDefEqProofs [go_sem, h]
    have e : i = l.length := by omega
    simp [e]

/-- Sessions behind a last ID are sound. -/
def okFrom (n : Int) (l : List Ses) : Int → List Ses → Bool
  | _, [] => true
  | z, x :: r => decide (z < x.id) && decide (x.id < n) && validB x.user && validB x.seat && decide ((actIn l x.seat).length = 1) && okFrom n l x.id r
def checkB (n : Int) (l : List Ses) : Bool := decide (1 ≤ n) && decide (n ≤ 1073741824) && decide (l.length ≤ 32) && okFrom n l 0 l
def lastAt (l : List Ses) (i : Nat) : Int := if i = 0 then 0 else ((l[i - 1]?).map (·.id)).getD 0
theorem lastAt_succ {l : List Ses} {i : Nat} (h : i < l.length) : lastAt l (i + 1) = l[i].id := by simp [lastAt, h]
theorem okFrom_drop {n : Int} {l : List Ses} {i : Nat} (h : i < l.length) (z : Int) : okFrom n l z (l.drop i) = (decide (z < l[i].id) && decide (l[i].id < n) && validB l[i].user && validB l[i].seat && decide ((actIn l l[i].seat).length = 1) && okFrom n l l[i].id (l.drop (i + 1))) := by
  rw [List.drop_eq_getElem_cons h]; rfl
theorem ofS_act (l : List Ses) (s : List UInt8) : (ofS l s).filter (·.act) = actIn l s := by
  simp only [ofS, actIn, List.filter_filter, Bool.and_comm]

set_option maxRecDepth 20000 in
theorem Check_c (n : Int) (l : List Ses) (hl : l.length < 1000000000) : ACalls Tryd.prog 20 [ssV n l] [] (.bool (checkB n l)) [] := by
  refine acalls_F c20_ok rfl ?_
  unfold c20 ssV sesL
  by_cases h1 : n < 1
  · have e : checkB n l = false := by simp [checkB]; omega
    simp +decide -dsimp -implicitDefEqProofs [go_sem, h1, e]
  by_cases h2 : n > 1073741824
  · have e : checkB n l = false := by simp [checkB]; omega
    simp +decide -dsimp -implicitDefEqProofs [go_sem, h1, h2, e]
  by_cases h3 : (l.length : Int) > 32
  · have e : checkB n l = false := by simp [checkB]; omega
    simp +decide -dsimp -implicitDefEqProofs [go_sem, h1, h2, h3, e]
  have e : checkB n l = okFrom n l 0 l := by
    have a1 : 1 ≤ n := by omega
    have a2 : n ≤ 1073741824 := by omega
    have a3 : l.length ≤ 32 := by omega
    simp [checkB, a1, a2, a3]
  rw [e]
  simp +decide -dsimp -implicitDefEqProofs [go_sem, h1, h2, h3]
  refine loop_of (S := Nat) (fun i => ⟨tmps 64 [(1, .ptr 0 0), (3, .int .i64 (lastAt l i)), (22, .imm (l.map sesR)), (23, .int .i64 l.length), (24, .int .i64 i)], [.box [.int .i64 n, .imm (l.map sesR)]]⟩) (fun i => l.length - i) (fun i => i ≤ l.length ∧ okFrom n l 0 l = okFrom n l (lastAt l i) (l.drop i)) 0 (by simp [lastAt]) (cut_of (by simp) ?_) ?_
  · simp +decide -dsimp -implicitDefEqProofs [go_sem, lastAt]
  intro i hi
  by_cases h : i < l.length
  · have w : IntKind.i64.wrap ((i : Int) + 1) = i + 1 := w64 (by omega) (by omega)
    have hi2 := hi.2
    rw [okFrom_drop h] at hi2
    have hls := lastAt_succ h
    have hfl : (ofS l l[i].seat).length < 1000000000 := Nat.lt_of_le_of_lt (List.length_filter_le _ _) hl
    have hof := of_c n l l[i].seat hl
    simp only [ssV, sesL] at hof
    have hfi := filterP_c (ofS l l[i].seat) (·.act) 39 hfl Check1_c
    rw [ofS_act, sesL] at hfi
    generalize hz : lastAt l i = z at hi2
    simp +decide -dsimp -implicitDefEqProofs [go_sem, h, sesR]
    refine callE_pure hof (by simp [closedL, closed, sesR_closedLL]) (by simp [closed, sesR_closedLL]) ?_
    simp +decide -dsimp -implicitDefEqProofs [go_sem]
    refine callE_pure hfi (by simp [closedL, closed, sesR_closedLL]) (by simp [closed, sesL, sesR_closedLL]) ?_
    by_cases c1 : l[i].id ≤ z
    · have e2 : okFrom n l 0 l = false := by rw [hi2]; have : ¬ z < l[i].id := by omega
                                             simp [this]
      simp +decide -dsimp -implicitDefEqProofs [go_sem, c1, e2]
    by_cases c2 : l[i].id ≥ n
    · have e2 : okFrom n l 0 l = false := by rw [hi2]; have : ¬ l[i].id < n := by omega
                                             simp [this]
      simp +decide -dsimp -implicitDefEqProofs [go_sem, c1, c2, e2]
    simp +decide -dsimp -implicitDefEqProofs [go_sem, c1, c2]
    refine callE_pure (nValid_c _) rfl rfl ?_
    have c1' : z < l[i].id := by omega
    have c2' : l[i].id < n := by omega
    cases c3 : validB l[i].user
    · have e2 : okFrom n l 0 l = false := by rw [hi2]; simp [c3]
      simp +decide -dsimp -implicitDefEqProofs [go_sem, e2]
    simp +decide -dsimp -implicitDefEqProofs [go_sem]
    refine callE_pure (nValid_c _) rfl rfl ?_
    cases c4 : validB l[i].seat
    · have e2 : okFrom n l 0 l = false := by rw [hi2]; simp [c4]
      simp +decide -dsimp -implicitDefEqProofs [go_sem, e2]
    by_cases c5 : (actIn l l[i].seat).length = 1
    · have c5' : ((actIn l l[i].seat).length : Int) = 1 := by omega
      have e2 : okFrom n l 0 l = okFrom n l l[i].id (l.drop (i + 1)) := by rw [hi2]; simp [c1', c2', c3, c4, c5]
      simp +decide -dsimp -implicitDefEqProofs [go_sem, c5, w, sesL]
      refine next_of (i + 1) ⟨by omega, by rw [hls]; exact e2⟩ (by omega) (cut_of (by simp) ?_)
      simp +decide -dsimp -implicitDefEqProofs [go_sem, hls]
    · have c5' : ¬ ((actIn l l[i].seat).length : Int) = 1 := by omega
      have e2 : okFrom n l 0 l = false := by rw [hi2]; simp [c5]
      simp +decide -dsimp -implicitDefEqProofs [go_sem, c5', e2, sesL]
  · have hi2 := hi.2
    rw [show i = l.length by omega, List.drop_length] at hi2
    simp +decide -dsimp -implicitDefEqProofs [go_sem, h]
    rw [hi2]; rfl
end Go.Ab
namespace Go.Ab
open Go Go.Proofs
/-- What opening gives; 'b' says whether the new session is the active one. -/
def openG (b : Bool) (n : Int) (l : List Ses) (user seat : List UInt8) (seats : List (List UInt8)) : AV :=
  if validB user = false then .tup [ssV 0 [], .int .i64 0, .int .i64 370]
  else if validB seat = false ∨ seat ∉ seats then .tup [ssV 0 [], .int .i64 0, .int .i64 371]
  else if 32 ≤ l.length ∨ n ≥ 1073741824 then .tup [ssV 0 [], .int .i64 0, .int .i64 372]
  else .tup [ssV (n + 1) (l ++ [⟨n, user, seat, b⟩]), .int .i64 n, .int .i64 0]

set_option maxRecDepth 20000 in
theorem Open_c (n : Int) (l : List Ses) (user seat : List UInt8) (seats : List (List UInt8)) (hl : l.length < 1000000000) (hs : seats.length < 1000000000) (hn : -9223372036854775808 ≤ n) :
    ACalls Tryd.prog 22 [ssV n l, .str user, .str seat, strsV seats] [] (openG (decide ((ofS l seat).length = 0)) n l user seat seats) [] := by
  refine acalls_FU 1 c22_ok rfl ?_
  unfold c22 openG ssV sesL
  simp +decide -dsimp -implicitDefEqProofs [go_sem]
  refine callE_pure (nValid_c user) rfl rfl ?_
  cases h1 : validB user
  · simp +decide -dsimp -implicitDefEqProofs [go_sem]
  simp +decide -dsimp -implicitDefEqProofs [go_sem]
  refine callE_pure (nValid_c seat) rfl rfl ?_
  cases h2 : validB seat
  · simp +decide -dsimp -implicitDefEqProofs [go_sem]
  simp +decide -dsimp -implicitDefEqProofs [go_sem]
  refine callE_pure (Contains_c seats seat hs) (by simp [closedL, strsV_closed, closed]) rfl ?_
  by_cases h3' : ¬ seat ∈ seats
  · simp +decide -dsimp -implicitDefEqProofs [go_sem, h3']
  have h3 : seat ∈ seats := Classical.not_not.1 h3'
  by_cases h4 : 32 ≤ l.length
  · have h4' : (l.length : Int) ≥ 32 := by omega
    simp +decide -dsimp -implicitDefEqProofs [go_sem, h3, h4, h4']
  have h4' : ¬ (l.length : Int) ≥ 32 := by omega
  by_cases h5 : n ≥ 1073741824
  · simp +decide -dsimp -implicitDefEqProofs [go_sem, h3, h4, h4', h5]
  have w : IntKind.i64.wrap (n + 1) = n + 1 := w64 (by omega) (by omega)
  have hof := of_c n l seat hl
  simp only [ssV, sesL] at hof
  simp +decide -dsimp -implicitDefEqProofs [go_sem, h3, h4', h5]
  refine callDE_pure hof (by simp [closedL, closed, sesR_closedLL]) (by simp [closed, sesR_closedLL]) ?_
  simp +decide -dsimp -implicitDefEqProofs [go_sem]
  have hcl := Clone_c l hl
  simp only [sesL] at hcl
  refine callDE_frame [0] (hcl.unborn (by simp [closedL, closed, sesR_closedLL]) 1 (by simp)) rfl rfl (by simp) (by simp [go_sem]) (by simp [go_sem]) ?_
  have hb : (((ofS l seat).length : Int) == 0) = decide (ofS l seat = []) := by
    cases ofS l seat with
    | nil => rfl
    | cons x r => simp; omega
  have h5' : ¬ 1073741824 ≤ n := by omega
  have m1 : l.length + 1 ≤ maxLen := by simp only [maxLen]; omega
  have m2 : (l.length + 1) * 48 ≤ 140737488355328 := by omega
  simp +decide -dsimp -implicitDefEqProofs [go_sem, w, h3, h4, h5', hb, m1, m2]
  simp [sesR]

set_option maxRecDepth 20000 in
theorem rOpen_c (n : Int) (l : List Ses) (user seat : List UInt8) (seats : List (List UInt8)) (hl : l.length < 1000000000) (hs : seats.length < 1000000000) (hn : -9223372036854775808 ≤ n) :
    ACalls Tryd.prog 23 [ssV n l, .str user, .str seat, strsV seats] [] (openG (decide ((actIn l seat).length = 0)) n l user seat seats) [] := by
  refine acalls_F c23_ok rfl ?_
  unfold c23 openG ssV sesL
  simp +decide -dsimp -implicitDefEqProofs [go_sem]
  refine callE_pure (rValid_c user) rfl rfl ?_
  cases h1 : validB user
  · simp +decide -dsimp -implicitDefEqProofs [go_sem]
  simp +decide -dsimp -implicitDefEqProofs [go_sem]
  refine callE_pure (rValid_c seat) rfl rfl ?_
  cases h2 : validB seat
  · simp +decide -dsimp -implicitDefEqProofs [go_sem]
  simp +decide -dsimp -implicitDefEqProofs [go_sem]
  refine callE_pure (In_c seats seat hs) (by simp [closedL, strsV_closed, closed]) rfl ?_
  by_cases h3' : ¬ seat ∈ seats
  · simp +decide -dsimp -implicitDefEqProofs [go_sem, h3']
  have h3 : seat ∈ seats := Classical.not_not.1 h3'
  by_cases h4 : 32 ≤ l.length
  · have h4' : (l.length : Int) ≥ 32 := by omega
    simp +decide -dsimp -implicitDefEqProofs [go_sem, h3, h4, h4']
  have h4' : ¬ (l.length : Int) ≥ 32 := by omega
  by_cases h5 : n ≥ 1073741824
  · simp +decide -dsimp -implicitDefEqProofs [go_sem, h3, h4, h4', h5]
  have w : IntKind.i64.wrap (n + 1) = n + 1 := w64 (by omega) (by omega)
  have hof := rActive_c n l seat hl
  simp only [ssV, sesL] at hof
  have m0 : l.length ≤ maxLen := by simp only [maxLen]; omega
  have m3 : l.length * 48 ≤ 140737488355328 := by omega
  have m1 : l.length + 1 ≤ maxLen := by simp only [maxLen]; omega
  have m2 : (l.length + 1) * 48 ≤ 140737488355328 := by omega
  simp +decide -dsimp -implicitDefEqProofs [go_sem, h3, h4', h5, m0, m3]
  refine callDE_pure hof (by simp [closedL, closed, sesR_closedLL]) rfl ?_
  have hb : (((actIn l seat).length : Int) == 0) = decide (actIn l seat = []) := by
    cases actIn l seat with
    | nil => rfl
    | cons x r => simp; omega
  have h5' : ¬ 1073741824 ≤ n := by omega
  simp +decide -dsimp -implicitDefEqProofs [go_sem, w, h3, h4, h5', hb, m1, m2]
  simp [sesR]

set_option maxRecDepth 20000 in
theorem rCheck_c (n : Int) (l : List Ses) (hl : l.length < 1000000000) : ACalls Tryd.prog 21 [ssV n l] [] (.bool (checkB n l)) [] := by
  refine acalls_F c21_ok rfl ?_
  unfold c21 ssV sesL
  by_cases h1 : n < 1
  · have e : checkB n l = false := by simp [checkB]; omega
    simp +decide -dsimp -implicitDefEqProofs [go_sem, h1, e]
  by_cases h2 : n > 1073741824
  · have e : checkB n l = false := by simp [checkB]; omega
    simp +decide -dsimp -implicitDefEqProofs [go_sem, h1, h2, e]
  by_cases h3 : (l.length : Int) > 32
  · have e : checkB n l = false := by simp [checkB]; omega
    simp +decide -dsimp -implicitDefEqProofs [go_sem, h1, h2, h3, e]
  have e : checkB n l = okFrom n l 0 l := by
    have a1 : 1 ≤ n := by omega
    have a2 : n ≤ 1073741824 := by omega
    have a3 : l.length ≤ 32 := by omega
    simp [checkB, a1, a2, a3]
  rw [e]
  simp +decide -dsimp -implicitDefEqProofs [go_sem, h1, h2, h3]
  refine loop_of (S := Nat) (fun i => ⟨tmps 76 [(1, .ptr 0 0), (3, .int .i64 i)], [.box [.int .i64 n, .imm (l.map sesR)]]⟩) (fun i => l.length - i) (fun i => i ≤ l.length ∧ okFrom n l 0 l = okFrom n l (lastAt l i) (l.drop i) ∧ 0 ≤ lastAt l i) 0 (by simp [lastAt]) (cut_of (by simp) ?_) ?_
  · simp +decide -dsimp -implicitDefEqProofs [go_sem]
  intro i hi
  by_cases h : i < l.length
  · have w : IntKind.i64.wrap ((i : Int) + 1) = i + 1 := w64 (by omega) (by omega)
    obtain ⟨hi1, hi2, hi3⟩ := hi
    rw [okFrom_drop h] at hi2
    have hls := lastAt_succ h
    have hof := rActive_c n l l[i].seat hl
    simp only [ssV, sesL] at hof
    by_cases c0 : l[i].id < 1
    · have e2 : okFrom n l 0 l = false := by rw [hi2]; have : ¬ lastAt l i < l[i].id := by omega
                                             simp [this]
      simp +decide -dsimp -implicitDefEqProofs [go_sem, h, sesR, c0, e2]
    by_cases c2 : l[i].id ≥ n
    · have e2 : okFrom n l 0 l = false := by rw [hi2]; have : ¬ l[i].id < n := by omega
                                             simp [this]
      simp +decide -dsimp -implicitDefEqProofs [go_sem, h, sesR, c0, c2, e2]
    have key : ∀ Q : Prop, (okFrom n l 0 l = false → lastAt l i ≥ l[i].id → Q) → (lastAt l i < l[i].id → Q) → Q := fun Q a b => by
      by_cases c1 : lastAt l i < l[i].id
      · exact b c1
      · exact a (by rw [hi2]; simp [c1]) (by omega)
    by_cases i0 : i = 0
    · subst i0
      have c1' : lastAt l 0 < l[0].id := by simp only [lastAt, if_true]; omega
      have c2' : l[0].id < n := by omega
      simp +decide -dsimp -implicitDefEqProofs [go_sem, h, sesR, c0, c2]
      refine callDE_pure (rValid_c _) rfl rfl ?_
      cases c3 : validB l[0].user
      · have e2 : okFrom n l 0 l = false := by rw [hi2]; simp [c3]
        simp +decide -dsimp -implicitDefEqProofs [go_sem, e2]
      simp +decide -dsimp -implicitDefEqProofs [go_sem]
      refine callDE_pure (rValid_c _) rfl rfl ?_
      cases c4 : validB l[0].seat
      · have e2 : okFrom n l 0 l = false := by rw [hi2]; simp [c4]
        simp +decide -dsimp -implicitDefEqProofs [go_sem, e2]
      simp +decide -dsimp -implicitDefEqProofs [go_sem]
      refine callDE_pure hof (by simp [closedL, closed, sesR_closedLL]) rfl ?_
      by_cases c5 : (actIn l l[0].seat).length = 1
      · have c5' : ((actIn l l[0].seat).length : Int) = 1 := by omega
        have e2 : okFrom n l 0 l = okFrom n l l[0].id (l.drop (0 + 1)) := by rw [hi2]; simp [c1', c2', c3, c4, c5]
        simp +decide -dsimp -implicitDefEqProofs [go_sem, c5]
        refine next_of (0 + 1) ⟨by omega, by rw [hls]; exact e2, by omega⟩ (by omega) (cut_of (by simp) ?_)
        simp +decide -dsimp -implicitDefEqProofs [go_sem]
      · have c5' : ¬ ((actIn l l[0].seat).length : Int) = 1 := by omega
        have e2 : okFrom n l 0 l = false := by rw [hi2]; simp [c5]
        simp +decide -dsimp -implicitDefEqProofs [go_sem, c5', e2]
    · obtain ⟨j, rfl⟩ : ∃ j, i = j + 1 := ⟨i - 1, by omega⟩
      have c2' : l[j + 1].id < n := by omega
      have wj : IntKind.i64.wrap (j : Int) = j := w64 (by omega) (by omega)
      have hj : j < l.length := by omega
      have hlj := lastAt_succ hj
      have h' : (j : Int) + 1 < l.length := by omega
      have g0 : (j : Int) + 1 > 0 := by omega
      have g1 : 0 ≤ (j : Int) + 1 := by omega
      have w : IntKind.i64.wrap ((j : Int) + 1 + 1) = (j : Int) + 1 + 1 := w64 (by omega) (by omega)
      by_cases c1 : l[j].id ≥ l[j + 1].id
      · have e2 : okFrom n l 0 l = false := by rw [hi2]; have : ¬ lastAt l (j + 1) < l[j + 1].id := by omega
                                               simp [this]
        simp +decide -dsimp -implicitDefEqProofs [go_sem, h, h', hj, g0, g1, sesR, c0, c1, c2, wj, e2]
      have c1' : lastAt l (j + 1) < l[j + 1].id := by omega
      simp +decide -dsimp -implicitDefEqProofs [go_sem, h, h', hj, g0, g1, sesR, c0, c1, c2, wj]
      refine callDE_pure (rValid_c _) rfl rfl ?_
      cases c3 : validB l[(j + 1)].user
      · have e2 : okFrom n l 0 l = false := by rw [hi2]; simp [c3]
        simp +decide -dsimp -implicitDefEqProofs [go_sem, e2]
      simp +decide -dsimp -implicitDefEqProofs [go_sem]
      refine callDE_pure (rValid_c _) rfl rfl ?_
      cases c4 : validB l[(j + 1)].seat
      · have e2 : okFrom n l 0 l = false := by rw [hi2]; simp [c4]
        simp +decide -dsimp -implicitDefEqProofs [go_sem, e2]
      simp +decide -dsimp -implicitDefEqProofs [go_sem]
      refine callDE_pure hof (by simp [closedL, closed, sesR_closedLL]) rfl ?_
      by_cases c5 : (actIn l l[(j + 1)].seat).length = 1
      · have c5' : ((actIn l l[(j + 1)].seat).length : Int) = 1 := by omega
        have e2 : okFrom n l 0 l = okFrom n l l[(j + 1)].id (l.drop ((j + 1) + 1)) := by rw [hi2]; simp [c1', c2', c3, c4, c5]
        simp +decide -dsimp -implicitDefEqProofs [go_sem, c5, w]
        refine next_of ((j + 1) + 1) ⟨by omega, by rw [hls]; exact e2, by omega⟩ (by omega) (cut_of (by simp) ?_)
        simp +decide -dsimp -implicitDefEqProofs [go_sem]
      · have c5' : ¬ ((actIn l l[(j + 1)].seat).length : Int) = 1 := by omega
        have e2 : okFrom n l 0 l = false := by rw [hi2]; simp [c5]
        simp +decide -dsimp -implicitDefEqProofs [go_sem, c5', e2]
  · have hi2 := hi.2.1
    rw [show i = l.length by omega, List.drop_length] at hi2
    simp +decide -dsimp -implicitDefEqProofs [go_sem, h]
    rw [hi2]; rfl
end Go.Ab
