/- Rows of texts. -/
import Derived.Test.YtneghlianebffaaGreatDoorOX
import Derived.Test.YtneghlianebffaaGreatDoorC1
import Derived.Below
import Derived.Lib.SplitLaws
import Derived.Lib.ItoaNum
import Derived.Sort.Walk0
import Derived.Sort.LotA
namespace Go.Ab
open Go Go.Proofs
def sRow (s : List UInt8) : List AV := [.str s]
@[go_sem] theorem closedLL_sRows (k : Nat) (s : List (List UInt8)) : closedLL k (s.map sRow) = true := closedLL_map fun x _ => by simp [sRow, closedL, closed]
@[go_sem] theorem renLL_sRows (is : List Nat) (s : List (List UInt8)) : renLL is (s.map sRow) = s.map sRow := by
  induction s with
  | nil => rfl
  | cons x r ih => simp [renLL, ih, sRow, renL, ren]
@[go_sem] theorem sRow_len (s : List UInt8) : (sRow s).length = 1 := rfl
@[go_sem ↓] theorem ldK_sRow (s : List UInt8) (K : AV → Prop) : ldK none (sRow s) K = K (.str s) := rfl
@[go_sem] theorem bRow_len (s : UInt8) : (bRow s).length = 1 := rfl
end Go.Ab
namespace Go.Ab
open Go Go.Proofs

end Go.Ab
namespace Go.Ab
open Go Go.Proofs
def fold (v n : Int) : Int := if n ≤ 1 then 0 else if v.tmod n < 0 then v.tmod n + n else v.tmod n

theorem tmod_bd (v n : Int) (h : 1 < n) : -n < v.tmod n ∧ v.tmod n < n := by
  rw [tmod_eq_if]
  have h1 := Int.emod_nonneg v (b := n) (by omega)
  have h2 := Int.emod_lt_of_pos v (b := n) (by omega)
  have h3 := Int.emod_nonneg (-v) (b := n) (by omega)
  have h4 := Int.emod_lt_of_pos (-v) (b := n) (by omega)
  split <;> omega

theorem Fold_c (v n : Int) (hn : n ≤ 9223372036854775807) : ACalls Tryz.prog 15 [.int .i64 v, .int .i64 n] [] (.int .i64 (fold v n)) [] := by
  refine acalls_F c15_ok rfl ?_
  unfold c15
  simp only [fold]
  by_cases h1 : n ≤ 1
  · simp -dsimp -implicitDefEqProofs [go_sem, h1]
  have hb := tmod_bd v n (by omega)
  by_cases h2 : v.tmod n < 0
  · simp -dsimp -implicitDefEqProofs [go_sem, h1, h2, w64 (n := v.tmod n + n) (by omega) (by omega)]; omega
  · simp -dsimp -implicitDefEqProofs [go_sem, h1, h2]; omega

end Go.Ab
namespace Go.Ab
open Go Go.Proofs
def bB (bs : List Bool) : List AV := bs.map .bool
theorem bB_len (bs : List Bool) : (bB bs).length = bs.length := by simp [bB]
theorem zB_eq : zB = bB (List.replicate 256 false) := by rw [zB, bB, List.map_replicate]
theorem bB_take (bs : List Bool) (n : Nat) (h : bs.length ≤ n) : (bB bs).take n = bB bs := by rw [List.take_of_length_le (by rw [bB_len]; exact h)]
theorem bB_drop (bs : List Bool) (n : Nat) (h : n < bs.length) : (bB bs).drop n = .bool bs[n] :: (bB bs).drop (n + 1) := by
  rw [List.drop_eq_getElem_cons (by rw [bB_len]; exact h)]; simp [bB]
theorem bB_closed (k : Nat) (bs : List Bool) : closedL k (bB bs) = true := by
  induction bs with
  | nil => rfl
  | cons b r ih => simp only [bB, List.map_cons, closedL, closed, Bool.true_and]; exact ih
theorem bB_cvT (H : List AObj) (m : Nat) (bs : List Bool) : cvT H m (bB bs) (bB bs) := by
  induction bs with
  | nil => trivial
  | cons b r ih => exact ⟨.inr (.inl ⟨rfl, rfl⟩), ih⟩
theorem bB_set (bs : List Bool) (n : Nat) (b : Bool) (h : n < bs.length) : (bB bs).take n ++ [.bool b] ++ (bB bs).drop (n + 1) = bB (bs.set n b) := by
  simp only [bB, ← List.map_take, ← List.map_drop]
  rw [List.set_eq_take_append_cons_drop, if_pos h]; simp
theorem ldK_bB {bs : List Bool} {n : Nat} {K : AV → Prop} (h : n < bs.length) : ldK none ((bB bs).drop n) K = K (.bool bs[n]) := by rw [bB_drop bs n h]; rfl
def plusL (bs : List Bool) (s : List UInt8) : List Bool := s.foldl (fun b c => b.set c.toNat true) bs
theorem plusL_len (s : List UInt8) : ∀ bs : List Bool, (plusL bs s).length = bs.length := by
  induction s with
  | nil => intro bs; rfl
  | cons c r ih => intro bs; simp only [plusL, List.foldl_cons]; rw [← plusL, ih]; simp
theorem plusL_take {bs : List Bool} {s : List UInt8} {i : Nat} (h : i < s.length) : plusL bs (s.take (i + 1)) = (plusL bs (s.take i)).set s[i].toNat true := by
  rw [List.take_succ_eq_append_getElem h]; simp only [plusL, List.foldl_append, List.foldl_cons, List.foldl_nil]
theorem plusL_at (s : List UInt8) : ∀ (bs : List Bool) (c : UInt8), bs.length = 256 → (plusL bs s)[c.toNat]? = some (bs[c.toNat]?.getD false || decide (c ∈ s)) := by
  induction s with
  | nil => intro bs c h; have := UInt8.toNat_lt c; simp [plusL, List.getElem?_eq_getElem (show c.toNat < bs.length by omega)]
  | cons d r ih =>
    intro bs c h
    simp only [plusL, List.foldl_cons]
    rw [← plusL, ih _ _ (by simpa using h)]
    have hl := UInt8.toNat_lt c
    have hl := UInt8.toNat_lt d
    by_cases hcd : d = c
    · subst hcd; simp [show d.toNat < bs.length by omega]
    · have : d.toNat ≠ c.toNat := fun e => hcd (UInt8.toNat_inj.1 e)
      have hcd' : ¬ c = d := fun e => hcd e.symm
      simp [List.getElem?_set_ne this, hcd']

set_option maxRecDepth 20000 in
theorem plus_c (bs : List Bool) (s : List UInt8) (h256 : bs.length = 256) (hl : s.length < 1000000000) :
    ACalls Tryz.prog 80 [.agg (bB bs), .str s] [] (.agg (bB (plusL bs s))) [] := by
  refine acalls_F c80_ok rfl ?_
  unfold c80
  simp +decide -dsimp -implicitDefEqProofs [go_sem]
  refine loop_of (S := Nat) (fun i => ⟨tmps 17 [(1, .str s), (2, .ptr 0 0), (4, .ptr 1 0), (7, .int .i64 s.length), (8, .int .i64 i)], [.box 123 (bB (plusL bs (s.take i))), .box 123 zB]⟩) (fun i => s.length - i) (fun i => i ≤ s.length) 0 (by simp) (cut_of (by simp) ?_) ?_
  · simp +decide -dsimp -implicitDefEqProofs [go_sem, plusL, bB_cvT, zB_eq]
  intro i hi
  have hp : (plusL bs (s.take i)).length = 256 := by rw [plusL_len, h256]
  by_cases h : i < s.length
  · have w : IntKind.i64.wrap ((i : Int) + 1) = i + 1 := w64 (by omega) (by omega)
    have hc := UInt8.toNat_lt s[i]
    have e := bB_set (plusL bs (s.take i)) s[i].toNat true (by omega)
    rw [← plusL_take h] at e
    simp only [List.append_assoc, List.cons_append, List.nil_append] at e
    simp +decide -dsimp -implicitDefEqProofs [go_sem, h, w, hp, bB_len, hc, e]
    refine ⟨by omega, ?_⟩
    refine next_of (i + 1) (by omega) (by omega) (cut_of (by simp) ?_)
    simp +decide -dsimp -implicitDefEqProofs [go_sem, bB_cvT, zB_eq]
  · have e : i = s.length := by omega
    subst e
    have t1 : ∀ bs : List Bool, bs.length = 256 → (bB bs).take 256 = bB bs := fun bs h => bB_take bs 256 (by omega)
    have t2 : ∀ bs : List Bool, bs.length = 256 → (bB bs).drop 256 = [] := fun bs h => List.drop_eq_nil_of_le (by rw [bB_len]; omega)
    rw [List.take_length] at hp
    simp +decide -dsimp -implicitDefEqProofs [go_sem, hp, bB_len, t1, t2, zB_eq, bB_cvT]
theorem dots_c (s : List UInt8) : ACalls Tryz.prog 78 [.str s] [] (.bool (decide (s = [46] ∨ s = [46, 46]))) [] := by
  refine acalls_F c78_ok rfl ?_
  unfold c78
  by_cases h1 : s = [46]
  · simp +decide -dsimp -implicitDefEqProofs [go_sem, h1]
  · by_cases h2 : s = [46, 46]
    · simp +decide -dsimp -implicitDefEqProofs [go_sem, h2]
    · simp +decide -dsimp -implicitDefEqProofs [go_sem, h1, h2]

set_option maxRecDepth 20000 in
theorem has_c (bs : List Bool) (s : List UInt8) (h256 : bs.length = 256) (hl : s.length < 1000000000) :
    ACalls Tryz.prog 81 [.agg (bB bs), .str s] [] (.bool (s.all fun c => bs[c.toNat]?.getD false)) [] := by
  refine acalls_F c81_ok rfl ?_
  unfold c81
  simp +decide -dsimp -implicitDefEqProofs [go_sem]
  refine loop_of (S := Nat) (fun i => ⟨tmps 18 [(1, .str s), (2, .ptr 0 0), (7, .int .i64 s.length), (8, .int .i64 i)], [.box 123 (bB bs)]⟩) (fun i => s.length - i) (fun i => i ≤ s.length ∧ ∀ x ∈ s.take i, bs[x.toNat]?.getD false = true) 0 (by simp) (cut_of (by simp) ?_) ?_
  · simp +decide -dsimp -implicitDefEqProofs [go_sem, bB_cvT]
  intro i hi
  by_cases h : i < s.length
  · have w : IntKind.i64.wrap ((i : Int) + 1) = i + 1 := w64 (by omega) (by omega)
    have hc := UInt8.toNat_lt s[i]
    have hc2 : s[i].toNat < bs.length := by omega
    by_cases hb : bs[s[i].toNat] = true
    · simp +decide -dsimp -implicitDefEqProofs [go_sem, h, w, hc, hc2, ldK_bB, hb]
      refine next_of (i + 1) ⟨by omega, fun x hx => ?_⟩ (by omega) (cut_of (by simp) ?_)
      · rw [List.take_succ_eq_append_getElem h] at hx
        rcases List.mem_append.1 hx with hx | hx
        · exact hi.2 x hx
        · simp at hx; subst hx; simp [hc2, hb]
      simp +decide -dsimp -implicitDefEqProofs [go_sem, bB_cvT]
    · simp +decide -dsimp -implicitDefEqProofs [go_sem, h, w, hc, hc2, ldK_bB, hb]
      exact ⟨s[i], List.getElem_mem h, by simp [hc2, hb]⟩
  · have e : i = s.length := by omega
    have h2 := hi.2
    rw [e, List.take_length] at h2
    simp +decide -dsimp -implicitDefEqProofs [go_sem, h]
    intro x hx
    simpa using h2 x hx
theorem ToLower_c (s : List UInt8) (hs : s.length ≤ 140737488355328) (ha : ∀ b ∈ s, b.toNat < 128) : ACalls Tryz.prog 115 [.str s] [] (.str (Lib.toLowerA s)) [] := by
  refine .of_below (by kernel_rfl) fun c vs hv _ => ?_
  simp only [Vals, Val] at hv
  obtain ⟨v, vs', rfl, rfl, rfl⟩ := hv
  refine (Tryz.strings_ToLower_ascii ⟨s.toArray⟩ c.w (by simpa [ByteArray.size] using hs) (fun j b hj => ha b (List.mem_of_getElem? (by simpa using hj)))).mono fun e w' h => ?_
  exact ⟨_, h.1, h.2, fun c' => by simp only [Val]⟩

theorem IndexByte_c (s : List UInt8) (b : UInt8) : ACalls Tryz.prog 156 [.str s, .int .u8 b.toNat] [] (.int .i64 (Lib.indexByte s b)) [] := by
  refine .of_below (by kernel_rfl) fun c vs hv _ => ?_
  simp only [Vals, Val] at hv
  obtain ⟨v, vs', rfl, rfl, v2, vs2, rfl, rfl, rfl⟩ := hv
  refine (Tryz.strings_IndexByte ⟨s.toArray⟩ b.toNat c.w).mono fun e w' h => ?_
  obtain ⟨h1, rfl⟩ := h
  refine ⟨_, h1, Go.RowKit.Below.refl _ _, fun c' => ?_⟩
  simp [Val]

theorem indexByte_neg (s : List UInt8) (b : UInt8) : -1 ≤ Lib.indexByte s b ∧ (Lib.indexByte s b < 0 ↔ b ∉ s) := by
  induction s with
  | nil => simp [Lib.indexByte]
  | cons x r ih =>
    simp only [Lib.indexByte, beq_iff_eq, List.mem_cons, not_or]
    by_cases h : x = b
    · simp [h]
    · have h' : ¬ b = x := fun e => h e.symm
      by_cases h2 : Lib.indexByte r b = -1
      · simp only [h, if_false, h2, if_true]; rw [h2] at ih; simp_all
      · simp only [h, if_false, h2]
        refine ⟨by omega, ?_⟩
        rw [← ih.2]; constructor
        · intro h3; omega
        · intro h3; omega

set_option maxRecDepth 20000 in
theorem rin_c (s t : List UInt8) (hl : s.length < 1000000000) : ACalls Tryz.prog 110 [.str s, .str t] [] (.bool (s.all fun c => decide (c ∈ t))) [] := by
  refine acalls_F c110_ok rfl ?_
  unfold c110
  simp +decide -dsimp -implicitDefEqProofs [go_sem]
  refine loop_of (S := Nat) (fun i => ⟨tmps 18 [(0, .str s), (1, .str t), (5, .int .i64 i)], []⟩) (fun i => s.length - i) (fun i => i ≤ s.length ∧ ∀ x ∈ s.take i, x ∈ t) 0 (by simp) (cut_of (by simp) ?_) ?_
  · simp +decide -dsimp -implicitDefEqProofs [go_sem]
  intro i hi
  by_cases h : i < s.length
  · have w : IntKind.i64.wrap ((i : Int) + 1) = i + 1 := w64 (by omega) (by omega)
    have hn := indexByte_neg t s[i]
    simp +decide -dsimp -implicitDefEqProofs [go_sem, h]
    refine callE_pure (IndexByte_c t s[i]) rfl rfl ?_
    by_cases hb : s[i] ∈ t
    · have h2 : ¬ Lib.indexByte t s[i] < 0 := fun e => hn.2.1 e hb
      simp +decide -dsimp -implicitDefEqProofs [go_sem, h2, w]
      refine next_of (i + 1) ⟨by omega, fun x hx => ?_⟩ (by omega) (cut_of (by simp) ?_)
      · rw [List.take_succ_eq_append_getElem h] at hx
        rcases List.mem_append.1 hx with hx | hx
        · exact hi.2 x hx
        · simp at hx; subst hx; exact hb
      simp +decide -dsimp -implicitDefEqProofs [go_sem]
    · have h2 : Lib.indexByte t s[i] < 0 := hn.2.2 hb
      simp +decide -dsimp -implicitDefEqProofs [go_sem, h2]
      exact ⟨s[i], List.getElem_mem h, hb⟩
  · have h2 := hi.2
    rw [show i = s.length by omega, List.take_length] at h2
    simp +decide -dsimp -implicitDefEqProofs [go_sem, h]
    intro x hx; exact h2 x hx
def upperL : List UInt8 := [65, 66, 67, 68, 69, 70, 71, 72, 73, 74, 75, 76, 77, 78, 79, 80, 81, 82, 83, 84, 85, 86, 87, 88, 89, 90]
def digitsL : List UInt8 := [48, 49, 50, 51, 52, 53, 54, 55, 56, 57]
def setL : List UInt8 := [65, 66, 67, 68, 69, 70, 71, 72, 73, 74, 75, 76, 77, 78, 79, 80, 81, 82, 83, 84, 85, 86, 87, 88, 89, 90, 97, 98, 99, 100, 101, 102, 103, 104, 105, 106, 107, 108, 109, 110, 111, 112, 113, 114, 115, 116, 117, 118, 119, 120, 121, 122, 48, 49, 50, 51, 52, 53, 54, 55, 56, 57, 95, 46, 58, 43, 45, 33]
def falses : List Bool := List.replicate 256 false
def tblC : List Bool := plusL (plusL (plusL (plusL falses upperL) (Lib.toLowerA upperL)) digitsL) [95, 46, 58, 43, 45]
theorem falses_len : falses.length = 256 := List.length_replicate
theorem tblC_len : tblC.length = 256 := by simp only [tblC, plusL_len, falses_len]
theorem zB_f : zB = bB falses := zB_eq

theorem aggB_closed (k : Nat) (bs : List Bool) : closed k (.agg (bB bs)) = true := by simp only [closed]; exact bB_closed k bs
set_option maxRecDepth 20000 in
theorem common_c : ACalls Tryz.prog 79 [] [] (.agg (bB tblC)) [] := by
  refine acalls_F c79_ok rfl ?_
  unfold c79
  rw [zB_f]
  simp +decide -dsimp -implicitDefEqProofs [go_sem]
  refine callE_pure (plus_c falses upperL falses_len (by decide)) (by simp [closedL, bB_closed, closed]) (aggB_closed _ _) ?_
  simp +decide -dsimp -implicitDefEqProofs [go_sem]
  refine callE_pure (ToLower_c upperL (by decide) (by decide)) rfl rfl ?_
  simp +decide -dsimp -implicitDefEqProofs [go_sem]
  refine callE_pure (plus_c _ (Lib.toLowerA upperL) (by simp only [plusL_len, falses_len]) (by decide)) (by simp [closedL, bB_closed, closed]) (aggB_closed _ _) ?_
  simp +decide -dsimp -implicitDefEqProofs [go_sem]
  refine callE_pure (plus_c _ digitsL (by simp only [plusL_len, falses_len]) (by decide)) (by simp [closedL, bB_closed, closed]) (aggB_closed _ _) ?_
  simp +decide -dsimp -implicitDefEqProofs [go_sem]
  refine callE_pure (plus_c _ [95, 46, 58, 43, 45] (by simp only [plusL_len, falses_len]) (by decide)) (by simp [closedL, bB_closed, closed]) (aggB_closed _ _) ?_
  change cbv _ _ _
  have t1 : ∀ bs : List Bool, bs.length = 256 → (bB bs).take 256 = bB bs := fun bs h => bB_take bs 256 (by omega)
  have t2 : ∀ bs : List Bool, bs.length = 256 → (bB bs).drop 256 = [] := fun bs h => List.drop_eq_nil_of_le (by rw [bB_len]; omega)
  have e : plusL (plusL (plusL (plusL falses upperL) (Lib.toLowerA upperL)) digitsL) [95, 46, 58, 43, 45] = tblC := rfl
  rw [e]
  simp +decide -dsimp -implicitDefEqProofs [go_sem, bB_len, tblC_len, falses_len, t1, t2, bB_cvT]

def validB (s : List UInt8) : Bool := decide (s ≠ []) && decide (s.length ≤ 32) && !decide (s = [46] ∨ s = [46, 46]) && s.all fun c => decide (c ∈ setL)

theorem tbl_at (c : UInt8) : (plusL tblC [33])[c.toNat]?.getD false = decide (c ∈ setL) := by
  have h0 : ∀ n : Nat, n < 256 → falses[n]?.getD false = false := fun n h => by rw [falses, List.getElem?_replicate, if_pos h]; rfl
  have hl := UInt8.toNat_lt c
  rw [plusL_at _ _ _ tblC_len, tblC, plusL_at _ _ _ (by simp only [plusL_len, falses_len]), plusL_at _ _ _ (by simp only [plusL_len, falses_len]), plusL_at _ _ _ (by simp only [plusL_len, falses_len]), plusL_at _ _ _ falses_len, h0 _ (by omega)]
  simp only [Option.getD_some, Bool.false_or]
  clear hl
  have key : ∀ n : Fin 256, (decide (UInt8.ofNat n ∈ upperL) || decide (UInt8.ofNat n ∈ Lib.toLowerA upperL) || decide (UInt8.ofNat n ∈ digitsL) || decide (UInt8.ofNat n ∈ [95, 46, 58, 43, 45]) || decide (UInt8.ofNat n ∈ ([33] : List UInt8))) = decide (UInt8.ofNat n ∈ setL) := by decide +kernel
  have := key ⟨c.toNat, UInt8.toNat_lt c⟩
  simpa only [UInt8.ofNat_toNat] using this

theorem nValid_c (s : List UInt8) : ACalls Tryz.prog 41 [.str s] [] (.bool (validB s)) [] := by
  refine acalls_F c41_ok rfl ?_
  unfold c41 validB
  by_cases h0 : s = []
  · subst h0; simp +decide -dsimp -implicitDefEqProofs [go_sem]
  by_cases h1 : s.length ≤ 32
  · have h1' : (s.length : Int) ≤ 32 := by omega
    simp +decide -dsimp -implicitDefEqProofs [go_sem, h0, h1, h1']
    refine callE_pure (dots_c s) rfl rfl ?_
    by_cases h2 : s = [46] ∨ s = [46, 46]
    · simp +decide -dsimp -implicitDefEqProofs [go_sem, h2]
      intro a b; exact absurd h2 (by simp [a, b])
    · simp +decide -dsimp -implicitDefEqProofs [go_sem, h2]
      refine callE_pure common_c rfl (aggB_closed _ _) ?_
      simp +decide -dsimp -implicitDefEqProofs [go_sem]
      refine callE_pure (plus_c tblC [33] tblC_len (by decide)) (by simp [closedL, bB_closed, closed]) (aggB_closed _ _) ?_
      simp +decide -dsimp -implicitDefEqProofs [go_sem]
      refine callE_pure (has_c _ s (by rw [plusL_len, tblC_len]) (by omega)) (by simp [closedL, bB_closed, closed]) rfl ?_
      simp +decide -dsimp -implicitDefEqProofs [go_sem, tbl_at]
      intro _; exact ⟨fun e => h2 (.inl e), fun e => h2 (.inr e)⟩
  · have h1' : ¬ (s.length : Int) ≤ 32 := by omega
    simp +decide -dsimp -implicitDefEqProofs [go_sem, h0, h1, h1']

end Go.Ab
namespace Go.Ab
open Go Go.Proofs
theorem fold_bd (v : Int) (n : Int) (h : 1 ≤ n) : 0 ≤ fold v n ∧ fold v n < n := by
  unfold fold
  by_cases h1 : n ≤ 1
  · rw [if_pos h1]; omega
  have := tmod_bd v n (by omega)
  rw [if_neg h1]; split <;> omega
end Go.Ab
namespace Go.Ab
open Go Go.Proofs

def idxI (o : Option Nat) : Int := match o with | some i => i | none => -1
theorem findIdx?_at {α : Type} {l : List α} {p : α → Bool} {i : Nat} (h : i < l.length) (hp : p l[i] = true) (hn : ∀ x ∈ l.take i, p x = false) : l.findIdx? p = some i := by
  rw [List.findIdx?_eq_some_iff_getElem]
  refine ⟨h, by simpa using hp, fun j hj => ?_⟩
  have := hn l[j] (by rw [List.mem_take_iff_getElem]; exact ⟨j, by omega, rfl⟩)
  simp [this]

def selfH (H : List AObj) : Prop := cvH H H.length H H

set_option maxRecDepth 20000 in
theorem IndexFunc_c (l : List (List UInt8)) (F : Nat) (caps : List AV) (H : List AObj) (p : List UInt8 → Bool) (hl : l.length < 1000000000) (hc : closedL H.length caps = true) (hH : selfH H)
    (hf : ∀ x ∈ l, ACalls Tryz.prog F (.str x :: caps) H (.bool (p x)) H) :
    ACalls Tryz.prog 119 [.imm (l.map sRow), .fn (.func F) [] caps] H (.int .i64 (idxI (l.findIdx? p))) H := by
  refine acalls_F c119_ok rfl ?_
  unfold c119
  simp +decide -dsimp -implicitDefEqProofs [go_sem]
  refine loop_of (S := Nat) (fun i => ⟨tmps 19 [(0, .imm (l.map sRow)), (1, .fn (.func F) [] caps), (7, .int .i64 l.length), (8, .int .i64 i)], H⟩) (fun i => l.length - i) (fun i => i ≤ l.length ∧ ∀ x ∈ l.take i, p x = false) 0 (by simp) (cut_of (by simp) ?_) ?_
  · simp +decide -dsimp -implicitDefEqProofs [go_sem, hc]; exact hH
  intro i hi
  by_cases h : i < l.length
  · have w : IntKind.i64.wrap ((i : Int) + 1) = i + 1 := w64 (by omega) (by omega)
    simp +decide -dsimp -implicitDefEqProofs [go_sem, h]
    refine callE_of (hf l[i] (List.getElem_mem h)) ?_
    by_cases hp : p l[i] = true
    · simp +decide -dsimp -implicitDefEqProofs [go_sem, hp, findIdx?_at h hp hi.2, idxI]; exact hH
    · simp +decide -dsimp -implicitDefEqProofs [go_sem, hp, w]
      refine next_of (i + 1) ⟨by omega, fun x hx => ?_⟩ (by omega) (cut_of (by simp) ?_)
      · rw [List.take_succ_eq_append_getElem h] at hx
        rcases List.mem_append.1 hx with hx | hx
        · exact hi.2 x hx
        · simp at hx; subst hx; simpa using hp
      simp +decide -dsimp -implicitDefEqProofs [go_sem, hc]; exact hH
  · have e : i = l.length := by omega
    have h2 := hi.2
    rw [e, List.take_length] at h2
    have h3 : l.findIdx? p = none := by rw [List.findIdx?_eq_none_iff]; exact fun x hx => by simp [h2 x hx]
    simp +decide -dsimp -implicitDefEqProofs [go_sem, h, h3, idxI]; exact hH

theorem idxI_nonneg {l : List (List UInt8)} {p : List UInt8 → Bool} : decide (0 ≤ idxI (l.findIdx? p)) = l.any p := by
  cases h : l.findIdx? p with
  | none =>
    rw [List.findIdx?_eq_none_iff] at h
    have : l.any p = false := by rw [List.any_eq_false]; exact fun x hx => by simp [h x hx]
    simp [idxI, this]
  | some i =>
    obtain ⟨h1, h2, _⟩ := List.findIdx?_eq_some_iff_getElem.1 h
    have : l.any p = true := List.any_eq_true.2 ⟨l[i], List.getElem_mem h1, h2⟩
    simp [idxI, this]

theorem ContainsFunc_c (l : List (List UInt8)) (F : Nat) (caps : List AV) (H : List AObj) (p : List UInt8 → Bool) (hl : l.length < 1000000000) (hc : closedL H.length caps = true) (hH : selfH H)
    (hf : ∀ x ∈ l, ACalls Tryz.prog F (.str x :: caps) H (.bool (p x)) H) :
    ACalls Tryz.prog 86 [.imm (l.map sRow), .fn (.func F) [] caps] H (.bool (l.any p)) H := by
  refine acalls_F c86_ok rfl ?_
  unfold c86
  simp +decide -dsimp -implicitDefEqProofs [go_sem]
  refine callE_of (IndexFunc_c l F caps H p hl hc hH hf) ?_
  simp +decide -dsimp -implicitDefEqProofs [go_sem, ← idxI_nonneg]; exact hH

set_option maxRecDepth 20000 in
theorem all_c (l : List (List UInt8)) (F : Nat) (caps : List AV) (H : List AObj) (p : List UInt8 → Bool) (hl : l.length < 1000000000) (hc : ∀ n, H.length ≤ n → closedL n caps = true) (_hH : selfH H) (hH2 : ∀ x, cvH (H ++ [x]) H.length (H ++ [x]) H) (hH3 : ∀ cs, closedL (H.length + 1) cs = true → selfH (H ++ [.box 85 cs]))
    (hf : ∀ x ∈ l, ACalls Tryz.prog F (.str x :: caps) (H ++ [.box 85 [.fn (.func F) [] caps]]) (.bool (p x)) (H ++ [.box 85 [.fn (.func F) [] caps]])) :
    ACalls Tryz.prog 132 [.imm (l.map sRow), .fn (.func F) [] caps] H (.bool (l.all p)) H := by
  have h123 : ∀ x ∈ l, ACalls Tryz.prog 172 [.str x, .ptr H.length 0] (H ++ [.box 85 [.fn (.func F) [] caps]]) (.bool (!p x)) (H ++ [.box 85 [.fn (.func F) [] caps]]) := fun x hx => by
    refine acalls_F c172_ok rfl ?_
    unfold c172
    simp +decide -dsimp -implicitDefEqProofs [go_sem]
    refine callE_of (hf x hx) ?_
    simp +decide -dsimp -implicitDefEqProofs [go_sem]
    have := hH3 [.fn (.func F) [] caps] (by simp [closedL, closed, hc (H.length + 1) (by omega)])
    simpa [selfH] using this
  refine acalls_F c132_ok rfl ?_
  unfold c132
  simp +decide -dsimp -implicitDefEqProofs [go_sem]
  refine callE_of (ContainsFunc_c l 172 [.ptr H.length 0] (H ++ [.box 85 [.fn (.func F) [] caps]]) (fun x => !p x) hl (by simp [closedL, closed]) (hH3 _ (by simp [closedL, closed, hc (H.length + 1) (by omega)])) h123) ?_
  have e : (!l.any fun x => !p x) = l.all p := by rw [List.not_any_eq_all_not]; simp
  simp +decide -dsimp -implicitDefEqProofs [go_sem, e]; exact hH2 _
end Go.Ab
namespace Go.Ab
open Go Go.Proofs
def c90 : AFn := ⟨(sq [(ox 1 (.box 36 (.t 0))), (ox 2 (mb false))] (sq [(ox 4 (fa 9 1)), (ox 5 (ld 4)), (ox 6 (.bin .eql (.t 5) (.v (.str [])))), (mv 7 6), (ot 8 (fa 10 1) 7), (ot 9 (ld 8) 7), (ot 10 (.bin .eql (.t 9) (.v (.str []))) 7), (ox 11 (.pick (.t 7) (.t 10) (.v (.bool false)))), (mv 12 11), (ot 13 (fa 11 1) 12), (ot 14 (ld 13) 12), (ot 15 (b1 .eql 14 0) 12), (ox 16 (.pick (.t 12) (.t 15) (.v (.bool false)))), (mv 17 16), (ot 18 (fa 4 1) 17), (ot 19 (ld 18) 17), (ot 20 (.len .sl (.t 19)) 17), (ot 21 (b1 .eql 20 0) 17), (ox 22 (.pick (.t 17) (.t 21) (.v (.bool false)))), (mv 3 22)] (.seq (.block 0 (.seq (sq [(ox 24 (fa 0 1)), (ox 25 (ld 24)), (ox 26 (fc 120 [(.t 25)])), (ox 27 (.un .not (.t 26))), (mv 23 27)] (cd 23 .skip (sq [(ox 28 (fa 1 1)), (ox 29 (ld 28)), (ox 30 (b1 .lss 29 1)), (mv 23 30)] (cd 23 .skip (.ops [(ox 31 (fa 1 1)), (ox 32 (ld 31)), (ox 33 (b1 .gtr 32 1073741824)), (mv 23 33)]))))) (cd 23 (sq [(ox 2 (mb false))] .ret) (sq [(ox 35 (fa 2 1)), (ox 36 (ld 35)), (ox 37 (fc 121 [(.t 36), (iv 64), (.v (.fn (.func 122) [] [])), (.v (.fn (.func 123) [] []))])), (ox 38 (.un .not (.t 37))), (mv 34 38)] (cd 34 (sq [(ox 2 (mb false))] .ret) (.seq (sq [(ox 40 (fa 3 1)), (ox 41 (ld 40)), (ox 42 (fc 125 [(.t 41), (iv 16), (.v (.fn (.func 126) [] [])), (.v (.fn (.func 41) [] []))])), (ox 43 (.un .not (.t 42))), (mv 39 43)] (cd 39 .skip (sq [(ox 44 (fa 4 1)), (ox 45 (ld 44)), (ox 46 (fc 125 [(.t 45), (iv 16), (.v (.fn (.func 126) [] [])), (.v (.fn (.func 127) [] []))])), (ox 47 (.un .not (.t 46))), (mv 39 47)] (cd 39 .skip (.ops [(ox 48 (fa 6 1)), (ox 49 (ld 48)), (ox 50 (fc 125 [(.t 49), (iv 16), (.v (.fn (.func 126) [] [])), (.v (.fn (.func 128) [] []))])), (ox 51 (.un .not (.t 50))), (mv 39 51)]))))) (cd 39 (sq [(ox 2 (mb false))] .ret) (.seq (sq [(ox 53 (fa 5 1)), (ox 54 (ld 53)), (ox 55 (.len .sl (.t 54))), (ox 56 (b1 .gtr 55 16)), (mv 52 56)] (cd 52 .skip (.ops [(ox 57 (fa 5 1)), (ox 58 (ld 57)), (ox 59 (fc 86 [(.t 58), (.v (.fn (.func 129) [] []))])), (mv 52 59)]))) (cd 52 (sq [(ox 2 (mb false))] .ret) (.seq (sq [(ox 61 (fa 7 1)), (ox 62 (ld 61)), (ox 63 (.bin .neq (.t 62) (.v (.str [])))), (mv 64 63), (ot 65 (fa 7 1) 64), (ot 66 (ld 65) 64), (ot 67 (fc 130 [(.t 66)]) 64), (ot 68 (.un .not (.t 67)) 64), (ox 69 (.pick (.t 64) (.t 68) (.v (.bool false)))), (mv 60 69)] (cd 60 .skip (sq [(ox 70 (fa 8 1)), (ox 71 (ld 70)), (ox 72 (b1 .lss 71 (-1000))), (mv 60 72)] (cd 60 .skip (sq [(ox 73 (fa 8 1)), (ox 74 (ld 73)), (ox 75 (b1 .gtr 74 1000)), (mv 60 75)] (cd 60 .skip (sq [(ox 76 (fa 11 1)), (ox 77 (ld 76)), (ox 78 (b1 .lss 77 0)), (mv 60 78)] (cd 60 .skip (.ops [(ox 79 (fa 11 1)), (ox 80 (ld 79)), (ox 81 (b1 .gtr 80 4095)), (mv 60 81)]))))))))) (cd 60 (sq [(ox 2 (mb false))] .ret) .skip))))))))))) (sq [(mv 82 3), (mv 83 82), (of 84 (fa 9 1) 83), (of 85 (ld 84) 83), (of 86 (fc 41 [(.t 85)]) 83), (of 87 (.mov (.t 86)) 83), (ot 88 (fa 10 1) 87), (ot 89 (ld 88) 87), (ot 90 (fc 41 [(.t 89)]) 87), (of 91 (.pick (.t 87) (.t 90) (.v (.bool false))) 83), (ox 92 (.pick (.t 83) (.v (.bool true)) (.t 91))), (mv 2 92)] .ret)))), 93, [(.tmp 2)]⟩
theorem c90_ok : compileF Tryz.prog [] 90 = some c90 := by kernel_rfl
def c121 : AFn := ⟨(sq [(ox 8 (mb false))] (.seq (sq [(mv 11 0), (ox 12 (.len .sl (.t 11))), (ox 13 (.mov (iv 0)))] (.block 0 (.loop (sq [(ox 14 (b2 .lss 13 12))] (.seq (cd 14 .skip (.exit 0)) (.seq (.block 1 (sq [(mv 15 13), (ox 16 (.iaddr none 2 (.t 11) (.t 13))), (ox 17 (.load (some 2) (.t 16))), (ox 10 (.alloc 97 [(.str []), (.str [])])), (mv 9 15), (on (.store (some 2) (.t 10) (.t 17)))] (.seq (.draw [(mv 18 3), (ox 19 (.load (some 2) (.t 10))), (ox 20 (.call (.t 18) [(.t 19)])), (ox 21 (.un .not (.t 20))), (mv 22 21), (of 23 (.mov (.t 9)) 22), (of 24 (b1 .gtr 23 0) 22), (of 25 (.mov (.t 24)) 22), (ot 26 (.mov (.t 2)) 25), (ot 27 (.mov (.t 0)) 25), (ot 28 (.mov (.t 9)) 25), (ot 29 (b1 .sub 28 1) 25), (ot 30 (.iaddr none 2 (.t 27) (.t 29)) 25), (ot 31 (.load (some 2) (.t 30)) 25), (ot 32 (.call (.t 26) [(.t 31)]) 25), (ot 33 (.mov (.t 2)) 25), (ot 34 (.load (some 2) (.t 10)) 25), (ot 35 (.call (.t 33) [(.t 34)]) 25), (ot 36 (b2 .geq 32 35) 25), (of 37 (.pick (.t 25) (.t 36) (.v (.bool false))) 22), (ox 38 (.pick (.t 22) (.v (.bool true)) (.t 37)))] [0, 0, 3, 7, 15, 31, 63, 127, 255, 255, 255, 1279, 3839, 7935, 16383, 255, 255, 131071, 262143, 524287, 1048575]) (cd 38 (sq [(ox 8 (mb false))] .ret) .skip)))) (.ops [(ox 39 (b1 .add 13 1)), (mv 13 39)]))))))) (sq [(mv 40 0), (ox 41 (.len .sl (.t 40))), (mv 42 1), (ox 43 (b2 .leq 41 42)), (mv 8 43)] .ret))), 44, [(.tmp 8)]⟩
theorem c121_ok : compileF Tryz.prog [] 121 = some c121 := by kernel_rfl
def c122 : AFn := ⟨(sq [(ox 1 (.box 97 (.t 0))), (ox 2 (.mov (.v (.str []))))] (sq [(ox 3 (fa 0 1)), (ox 4 (ld 3)), (mv 2 4)] .ret)), 5, [(.tmp 2)]⟩
theorem c122_ok : compileF Tryz.prog [] 122 = some c122 := by kernel_rfl
def c123 : AFn := ⟨(sq [(ox 1 (.box 97 (.t 0))), (ox 2 (mb false))] (sq [(ox 3 (fa 0 1)), (ox 4 (ld 3)), (ox 5 (fc 124 [(.t 4)])), (mv 6 5), (ot 7 (fa 1 1) 6), (ot 8 (ld 7) 6), (ot 9 (fc 116 [(.t 8)]) 6), (ox 10 (.pick (.t 6) (.t 9) (.v (.bool false)))), (mv 2 10)] .ret)), 11, [(.tmp 2)]⟩
theorem c123_ok : compileF Tryz.prog [] 123 = some c123 := by kernel_rfl
def c125 : AFn := ⟨(sq [(ox 8 (mb false))] (.seq (sq [(mv 11 0), (ox 12 (.len .sl (.t 11))), (ox 13 (.mov (iv 0)))] (.block 0 (.loop (sq [(ox 14 (b2 .lss 13 12))] (.seq (cd 14 .skip (.exit 0)) (.seq (.block 1 (sq [(mv 15 13), (ox 16 (.iaddr none 1 (.t 11) (.t 13))), (ox 17 (ld 16)), (mv 9 15), (mv 10 17)] (sq [(mv 18 3), (mv 19 10), (ox 20 (.call (.t 18) [(.t 19)])), (ox 21 (.un .not (.t 20))), (mv 22 21), (of 23 (.mov (.t 9)) 22), (of 24 (b1 .gtr 23 0) 22), (of 25 (.mov (.t 24)) 22), (ot 26 (.mov (.t 2)) 25), (ot 27 (.mov (.t 0)) 25), (ot 28 (.mov (.t 9)) 25), (ot 29 (b1 .sub 28 1) 25), (ot 30 (.iaddr none 1 (.t 27) (.t 29)) 25), (ot 31 (ld 30) 25), (ot 32 (.call (.t 26) [(.t 31)]) 25), (ot 33 (.mov (.t 2)) 25), (ot 34 (.mov (.t 10)) 25), (ot 35 (.call (.t 33) [(.t 34)]) 25), (ot 36 (b2 .geq 32 35) 25), (of 37 (.pick (.t 25) (.t 36) (.v (.bool false))) 22), (ox 38 (.pick (.t 22) (.v (.bool true)) (.t 37)))] (cd 38 (sq [(ox 8 (mb false))] .ret) .skip)))) (.ops [(ox 39 (b1 .add 13 1)), (mv 13 39)]))))))) (sq [(mv 40 0), (ox 41 (.len .sl (.t 40))), (mv 42 1), (ox 43 (b2 .leq 41 42)), (mv 8 43)] .ret))), 44, [(.tmp 8)]⟩
theorem c125_ok : compileF Tryz.prog [] 125 = some c125 := by kernel_rfl
def c126 : AFn := ⟨(sq [(ox 2 (.mov (.v (.str []))))] (sq [(mv 3 0), (mv 2 3)] .ret)), 4, [(.tmp 2)]⟩
theorem c126_ok : compileF Tryz.prog [] 126 = some c126 := by kernel_rfl
def c128 : AFn := ⟨(sq [(ox 2 (mb false))] (sq [(mv 3 0), (ox 4 (.bin .neq (.t 3) (.v (.str [])))), (mv 5 4), (ot 6 (.mov (.t 0)) 5), (ot 7 (fc 116 [(.t 6)]) 5), (ox 8 (.pick (.t 5) (.t 7) (.v (.bool false)))), (mv 2 8)] .ret)), 9, [(.tmp 2)]⟩
theorem c128_ok : compileF Tryz.prog [] 128 = some c128 := by kernel_rfl
def c129 : AFn := ⟨(sq [(ox 2 (mb false))] (sq [(mv 3 0), (ox 4 (fc 128 [(.t 3)])), (ox 5 (.un .not (.t 4))), (mv 2 5)] .ret)), 6, [(.tmp 2)]⟩
theorem c129_ok : compileF Tryz.prog [] 129 = some c129 := by kernel_rfl
def c130 : AFn := ⟨(sq [(ox 2 (mb false))] (sq [(mv 3 0), (ox 4 (fc 41 [(.t 3)])), (mv 5 4), (ot 6 (.mov (.t 0)) 5), (ot 7 (.len .str (.t 6)) 5), (ot 8 (b1 .leq 7 15) 5), (ox 9 (.pick (.t 5) (.t 8) (.v (.bool false)))), (mv 10 9), (ot 11 (.mov (.t 0)) 10), (ot 12 (fc 170 [(.t 11), (.v (.str [58, 33]))]) 10), (ot 13 (.un .not (.t 12)) 10), (ox 14 (.pick (.t 10) (.t 13) (.v (.bool false)))), (mv 2 14)] .ret)), 15, [(.tmp 2)]⟩
theorem c130_ok : compileF Tryz.prog [] 130 = some c130 := by kernel_rfl
def c177 : AFn := ⟨(sq [(ox 2 (mb false))] (.seq (sq [(ox 3 (.mov (iv 0)))] (.block 0 (.loop (.seq (sq [(mv 4 3), (mv 5 0), (ox 6 (.len .str (.t 5))), (ox 7 (b2 .lss 4 6))] (cd 7 .skip (.exit 0))) (.seq (.block 1 (sq [(mv 10 0), (mv 11 3), (ox 12 (.idx (.t 10) (.t 11))), (ox 13 (.bin .lss (.t 12) (.v (.int .u8 32)))), (mv 14 13), (of 15 (.mov (.t 0)) 14), (of 16 (.mov (.t 3)) 14), (of 17 (.idx (.t 15) (.t 16)) 14), (of 18 (.bin .gtr (.t 17) (.v (.int .u8 126))) 14), (ox 19 (.pick (.t 14) (.v (.bool true)) (.t 18)))] (cd 19 (sq [(ox 2 (mb false))] .ret) .skip))) (.ops [(mv 8 3), (ox 9 (b1 .add 8 1)), (mv 3 9)])))))) (sq [(ox 2 (mb true))] .ret))), 20, [(.tmp 2)]⟩
theorem c177_ok : compileF Tryz.prog [] 177 = some c177 := by kernel_rfl
def c116 : AFn := ⟨(sq [(ox 2 (mb false))] (.seq (sq [(mv 4 0), (ox 5 (.len .str (.t 4))), (ox 6 (.mov (iv 0)))] (.block 0 (.loop (sq [(ox 7 (b2 .lss 6 5))] (.seq (cd 7 .skip (.exit 0)) (.seq (.block 1 (sq [(mv 8 6), (mv 3 8)] (sq [(mv 9 0), (mv 10 3), (ox 11 (.idx (.t 9) (.t 10))), (ox 12 (.bin .lss (.t 11) (.v (.int .u8 32)))), (mv 13 12), (of 14 (.mov (.t 0)) 13), (of 15 (.mov (.t 3)) 13), (of 16 (.idx (.t 14) (.t 15)) 13), (of 17 (.bin .gtr (.t 16) (.v (.int .u8 126))) 13), (ox 18 (.pick (.t 13) (.v (.bool true)) (.t 17)))] (cd 18 (sq [(ox 2 (mb false))] .ret) .skip)))) (.ops [(ox 19 (b1 .add 6 1)), (mv 6 19)]))))))) (sq [(mv 20 0), (ox 21 (.len .str (.t 20))), (ox 22 (b1 .leq 21 256)), (mv 2 22)] .ret))), 23, [(.tmp 2)]⟩
theorem c116_ok : compileF Tryz.prog [] 116 = some c116 := by kernel_rfl
def c46 : AFn := ⟨(sq [(ox 1 (.box 36 (.t 0))), (ox 2 (.mov (iv 0)))] (.seq (sq [(ox 3 (.load (some 12) (.t 1))), (ox 4 (fc 90 [(.t 3)])), (ox 5 (.un .not (.t 4)))] (cd 5 (sq [(ox 2 (.mov (iv 250)))] .ret) .skip)) (sq [(ox 2 (.mov (iv 0)))] .ret))), 6, [(.tmp 2)]⟩
theorem c46_ok : compileF Tryz.prog [] 46 = some c46 := by kernel_rfl
def c140 : AFn := ⟨(sq [(ox 2 (mb false))] (sq [(mv 3 0), (ox 4 (.bin .neq (.t 3) (.v (.str [])))), (mv 5 4), (ot 6 (.mov (.t 0)) 5), (ot 7 (.len .str (.t 6)) 5), (ot 8 (b1 .leq 7 32) 5), (ox 9 (.pick (.t 5) (.t 8) (.v (.bool false)))), (mv 10 9), (ot 11 (.mov (.t 0)) 10), (ot 12 (fc 110 [(.t 11), (.v (.str [65, 66, 67, 68, 69, 70, 71, 72, 73, 74, 75, 76, 77, 78, 79, 80, 81, 82, 83, 84, 85, 86, 87, 88, 89, 90, 48, 49, 50, 51, 52, 53, 54, 55, 56, 57, 95]))]) 10), (ox 13 (.pick (.t 10) (.t 12) (.v (.bool false)))), (mv 14 13), (ot 15 (.mov (.t 0)) 14), (ot 16 (.slice .str 0 (.t 15) none (some (iv 1))) 14), (ot 17 (fc 110 [(.t 16), (.v (.str [65, 66, 67, 68, 69, 70, 71, 72, 73, 74, 75, 76, 77, 78, 79, 80, 81, 82, 83, 84, 85, 86, 87, 88, 89, 90]))]) 14), (ox 18 (.pick (.t 14) (.t 17) (.v (.bool false)))), (mv 2 18)] .ret)), 19, [(.tmp 2)]⟩
theorem c140_ok : compileF Tryz.prog [] 140 = some c140 := by kernel_rfl
def c120 : AFn := ⟨(sq [(ox 2 (mb false))] (sq [(mv 6 0), (ox 7 (fc 91 [(.t 6)])), (mv 5 7), (ox 8 (xt 5 0)), (ox 9 (xt 5 1)), (mv 3 8), (mv 4 9)] (sq [(mv 10 4), (ox 11 (b1 .eql 10 0)), (mv 12 11), (ot 13 (.mov (.t 3)) 12), (ot 14 (.len .sl (.t 13)) 12), (ot 15 (b1 .leq 14 7) 12), (ox 16 (.pick (.t 12) (.t 15) (.v (.bool false)))), (mv 2 16)] .ret))), 17, [(.tmp 2)]⟩
theorem c120_ok : compileF Tryz.prog [] 120 = some c120 := by kernel_rfl
def c124 : AFn := ⟨(sq [(ox 2 (mb false))] (.seq (.draw [(mv 3 0), (ox 4 (.bin .neq (.t 3) (.v (.str [])))), (mv 5 4), (ot 6 (.mov (.t 0)) 5), (ot 7 (.len .str (.t 6)) 5), (ot 8 (b1 .leq 7 32) 5), (ox 9 (.pick (.t 5) (.t 8) (.v (.bool false)))), (mv 10 9), (ot 11 (.build zB []) 10), (ot 12 (fc 80 [(.t 11), (.v (.str [65, 66, 67, 68, 69, 70, 71, 72, 73, 74, 75, 76, 77, 78, 79, 80, 81, 82, 83, 84, 85, 86, 87, 88, 89, 90]))]) 10), (ot 13 (.mov (.t 0)) 10), (ot 14 (.slice .str 0 (.t 13) none (some (iv 1))) 10), (ot 15 (fc 81 [(.t 12), (.t 14)]) 10), (ox 16 (.pick (.t 10) (.t 15) (.v (.bool false)))), (mv 17 16), (ot 18 (.build zB []) 17), (ot 19 (fc 80 [(.t 18), (.v (.str [65, 66, 67, 68, 69, 70, 71, 72, 73, 74, 75, 76, 77, 78, 79, 80, 81, 82, 83, 84, 85, 86, 87, 88, 89, 90]))]) 17), (ot 20 (fc 80 [(.t 19), (.v (.str [48, 49, 50, 51, 52, 53, 54, 55, 56, 57]))]) 17), (ot 21 (fc 80 [(.t 20), (.v (.str [95]))]) 17), (ot 22 (.mov (.t 0)) 17), (ot 23 (fc 81 [(.t 21), (.t 22)]) 17), (ox 24 (.pick (.t 17) (.t 23) (.v (.bool false)))), (mv 2 24)] [0, 1, 3, 7, 15, 31, 63, 127, 255, 511, 255, 1279, 4095, 8191, 16383, 32767, 65535, 131071, 262143, 32767, 1048575, 2097151, 4194303]) .ret)), 25, [(.tmp 2)]⟩
theorem c124_ok : compileF Tryz.prog [] 124 = some c124 := by kernel_rfl
end Go.Ab
namespace Go.Ab
open Go Go.Proofs

def printB (s : List UInt8) : Bool := s.all fun c => decide (32 ≤ c.toNat) && decide (c.toNat ≤ 126)
def textB (s : List UInt8) : Bool := printB s && decide (s.length ≤ 256)

set_option maxRecDepth 20000 in
theorem rPrintable_c (s : List UInt8) (hl : s.length < 9223372036854775807) : ACalls Tryz.prog 177 [.str s] [] (.bool (printB s)) [] := by
  refine acalls_F c177_ok rfl ?_
  unfold c177
  simp +decide -dsimp -implicitDefEqProofs [go_sem]
  refine loop_of (S := Nat) (fun i => ⟨tmps 20 [(0, .str s), (3, .int .i64 i)], []⟩) (fun i => s.length - i) (fun i => i ≤ s.length ∧ ∀ x ∈ s.take i, 32 ≤ x.toNat ∧ x.toNat ≤ 126) 0 (by simp) (cut_of (by simp) ?_) ?_
  · simp +decide -dsimp -implicitDefEqProofs [go_sem]
  intro i hi
  by_cases h : i < s.length
  · have w : IntKind.i64.wrap ((i : Int) + 1) = i + 1 := w64 (by omega) (by omega)
    by_cases h1 : s[i].toNat < 32
    · have h1' : (s[i].toNat : Int) < 32 := by omega
      simp +decide -dsimp -implicitDefEqProofs [go_sem, h, h1']
      simp only [printB, List.all_eq_false]
      exact ⟨s[i], List.getElem_mem h, by simp; omega⟩
    · have h1' : ¬ (s[i].toNat : Int) < 32 := by omega
      by_cases h2 : 126 < s[i].toNat
      · have h2' : (126 : Int) < s[i].toNat := by omega
        simp +decide -dsimp -implicitDefEqProofs [go_sem, h, h1', h2']
        simp only [printB, List.all_eq_false]
        exact ⟨s[i], List.getElem_mem h, by simp; omega⟩
      · have h2' : ¬ (126 : Int) < s[i].toNat := by omega
        simp +decide -dsimp -implicitDefEqProofs [go_sem, h, h1', h2', w]
        refine next_of (i + 1) ⟨by omega, fun x hx => ?_⟩ (by omega) (cut_of (by simp) ?_)
        · rw [List.take_succ_eq_append_getElem h] at hx
          rcases List.mem_append.1 hx with hx | hx
          · exact hi.2 x hx
          · simp at hx; subst hx; omega
        simp +decide -dsimp -implicitDefEqProofs [go_sem]
  · have e : i = s.length := by omega
    have h2 := hi.2
    rw [e, List.take_length] at h2
    have h3 : printB s = true := by simp only [printB, List.all_eq_true]; intro x hx; have := h2 x hx; simp; omega
    simp +decide -dsimp -implicitDefEqProofs [go_sem, h, h3]

set_option maxRecDepth 20000 in
theorem Text_c (s : List UInt8) (hl : s.length < 9223372036854775807) : ACalls Tryz.prog 116 [.str s] [] (.bool (textB s)) [] := by
  refine acalls_F c116_ok rfl ?_
  unfold c116
  simp +decide -dsimp -implicitDefEqProofs [go_sem]
  refine loop_of (S := Nat) (fun i => ⟨tmps 23 [(0, .str s), (5, .int .i64 s.length), (6, .int .i64 i)], []⟩) (fun i => s.length - i) (fun i => i ≤ s.length ∧ ∀ x ∈ s.take i, 32 ≤ x.toNat ∧ x.toNat ≤ 126) 0 (by simp) (cut_of (by simp) ?_) ?_
  · simp +decide -dsimp -implicitDefEqProofs [go_sem]
  intro i hi
  by_cases h : i < s.length
  · have w : IntKind.i64.wrap ((i : Int) + 1) = i + 1 := w64 (by omega) (by omega)
    by_cases h1 : s[i].toNat < 32
    · have h1' : (s[i].toNat : Int) < 32 := by omega
      have h3 : printB s = false := by simp only [printB, List.all_eq_false]; exact ⟨s[i], List.getElem_mem h, by simp; omega⟩
      simp +decide -dsimp -implicitDefEqProofs [go_sem, h, h1', textB, h3]
    · have h1' : ¬ (s[i].toNat : Int) < 32 := by omega
      by_cases h2 : 126 < s[i].toNat
      · have h2' : (126 : Int) < s[i].toNat := by omega
        have h3 : printB s = false := by simp only [printB, List.all_eq_false]; exact ⟨s[i], List.getElem_mem h, by simp; omega⟩
        simp +decide -dsimp -implicitDefEqProofs [go_sem, h, h1', h2', textB, h3]
      · have h2' : ¬ (126 : Int) < s[i].toNat := by omega
        simp +decide -dsimp -implicitDefEqProofs [go_sem, h, h1', h2', w]
        refine next_of (i + 1) ⟨by omega, fun x hx => ?_⟩ (by omega) (cut_of (by simp) ?_)
        · rw [List.take_succ_eq_append_getElem h] at hx
          rcases List.mem_append.1 hx with hx | hx
          · exact hi.2 x hx
          · simp at hx; subst hx; omega
        simp +decide -dsimp -implicitDefEqProofs [go_sem]
  · have e : i = s.length := by omega
    have h2 := hi.2
    rw [e, List.take_length] at h2
    have h3 : printB s = true := by simp only [printB, List.all_eq_true]; intro x hx; have := h2 x hx; simp; omega
    have e : (decide ((s.length : Int) ≤ 256)) = decide (s.length ≤ 256) := by rw [decide_eq_decide]; omega
    simp +decide -dsimp -implicitDefEqProofs [go_sem, h, h3, textB, e]
end Go.Ab
namespace Go.Ab
open Go Go.Proofs
def keyL : List UInt8 := [65, 66, 67, 68, 69, 70, 71, 72, 73, 74, 75, 76, 77, 78, 79, 80, 81, 82, 83, 84, 85, 86, 87, 88, 89, 90, 48, 49, 50, 51, 52, 53, 54, 55, 56, 57, 95]
def keyNB (s : List UInt8) : Bool := decide (s ≠ []) && decide (s.length ≤ 32) && ((s.take 1).all fun c => decide (c ∈ upperL)) && s.all fun c => decide (c ∈ keyL)

theorem falses_at (c : UInt8) : falses[c.toNat]?.getD false = false := by
  have := UInt8.toNat_lt c
  rw [falses, List.getElem?_replicate, if_pos (by omega)]; rfl
theorem tblU_at (c : UInt8) : (plusL falses upperL)[c.toNat]?.getD false = decide (c ∈ upperL) := by
  rw [plusL_at _ _ _ falses_len, falses_at]; simp
theorem tblK_at (c : UInt8) : (plusL (plusL (plusL falses upperL) digitsL) [95])[c.toNat]?.getD false = decide (c ∈ keyL) := by
  rw [plusL_at _ _ _ (by simp only [plusL_len, falses_len]), plusL_at _ _ _ (by simp only [plusL_len, falses_len]), tblU_at]
  simp only [Option.getD_some]
  have key : ∀ n : Fin 256, (decide (UInt8.ofNat n ∈ upperL) || decide (UInt8.ofNat n ∈ digitsL) || decide (UInt8.ofNat n ∈ ([95] : List UInt8))) = decide (UInt8.ofNat n ∈ keyL) := by decide +kernel
  have := key ⟨c.toNat, UInt8.toNat_lt c⟩
  simpa only [UInt8.ofNat_toNat] using this

theorem rKey_c (s : List UInt8) : ACalls Tryz.prog 140 [.str s] [] (.bool (keyNB s)) [] := by
  refine acalls_F c140_ok rfl ?_
  unfold c140 keyNB
  by_cases h0 : s = []
  · subst h0; simp +decide -dsimp -implicitDefEqProofs [go_sem]
  have hpos : 0 < s.length := List.length_pos_iff.2 h0
  by_cases h1 : s.length ≤ 32
  · have h1' : (s.length : Int) ≤ 32 := by omega
    simp +decide -dsimp -implicitDefEqProofs [go_sem, h0, h1, h1']
    refine callE_pure (rin_c s keyL (by omega)) rfl rfl ?_
    by_cases h2 : (s.all fun c => decide (c ∈ keyL)) = true
    · simp +decide -dsimp -implicitDefEqProofs [go_sem, h2]
      refine ⟨by omega, ?_⟩
      refine callE_pure (rin_c (s.take 1) upperL (by simp; omega)) rfl rfl ?_
      simp +decide -dsimp -implicitDefEqProofs [go_sem, h2]
    · simp +decide -dsimp -implicitDefEqProofs [go_sem, h2]
  · have h1' : ¬ (s.length : Int) ≤ 32 := by omega
    simp +decide -dsimp -implicitDefEqProofs [go_sem, h0, h1, h1']

theorem Key_c (s : List UInt8) : ACalls Tryz.prog 124 [.str s] [] (.bool (keyNB s)) [] := by
  refine acalls_F c124_ok rfl ?_
  unfold c124 keyNB
  rw [zB_f]
  by_cases h0 : s = []
  · subst h0; simp +decide -dsimp -implicitDefEqProofs [go_sem]
  have hpos : 0 < s.length := List.length_pos_iff.2 h0
  by_cases h1 : s.length ≤ 32
  · have h1' : (s.length : Int) ≤ 32 := by omega
    have cl : ∀ bs, closedL 0 [.agg (bB bs)] = true := fun bs => by simp [closedL, aggB_closed]
    simp +decide -dsimp -implicitDefEqProofs [go_sem, h0, h1, h1']
    refine callDE_pure (plus_c falses upperL falses_len (by decide)) (by simp [closedL, closed, bB_closed]) (aggB_closed _ _) ?_
    simp +decide -dsimp -implicitDefEqProofs [go_sem]
    refine ⟨by omega, ?_⟩
    have hU := has_c (plusL falses upperL) (s.take 1) (by rw [plusL_len, falses_len]) (by simp; omega)
    simp only [tblU_at] at hU
    refine callDE_pure hU (by simp [closedL, closed, bB_closed]) rfl ?_
    by_cases h2 : ((s.take 1).all fun c => decide (c ∈ upperL)) = true
    · simp +decide -dsimp -implicitDefEqProofs [go_sem, h2]
      refine callDE_pure (plus_c falses upperL falses_len (by decide)) (by simp [closedL, closed, bB_closed]) (aggB_closed _ _) ?_
      simp +decide -dsimp -implicitDefEqProofs [go_sem]
      refine callDE_pure (plus_c _ digitsL (by simp only [plusL_len, falses_len]) (by decide)) (by simp [closedL, closed, bB_closed]) (aggB_closed _ _) ?_
      simp +decide -dsimp -implicitDefEqProofs [go_sem]
      refine callDE_pure (plus_c _ [95] (by simp only [plusL_len, falses_len]) (by decide)) (by simp [closedL, closed, bB_closed]) (aggB_closed _ _) ?_
      simp +decide -dsimp -implicitDefEqProofs [go_sem]
      have hK := has_c (plusL (plusL (plusL falses upperL) digitsL) [95]) s (by simp only [plusL_len, falses_len]) (by omega)
      simp only [tblK_at] at hK
      refine callDE_pure hK (by simp [closedL, closed, bB_closed]) rfl ?_
      simp +decide -dsimp -implicitDefEqProofs [go_sem, h2]
    · simp +decide -dsimp -implicitDefEqProofs [go_sem, h2]
  · have h1' : ¬ (s.length : Int) ≤ 32 := by omega
    simp +decide -dsimp -implicitDefEqProofs [go_sem, h0, h1, h1']
end Go.Ab
namespace Go.Ab
open Go Go.Proofs

def splitL (s : List UInt8) (c : UInt8) : List (List UInt8) := (Lib.splitB ⟨#[c]⟩ 0 (Lib.countB ⟨s.toArray⟩ ⟨#[c]⟩) ⟨s.toArray⟩).map fun b => b.data.toList

theorem Split_c (s : List UInt8) (c : UInt8) (hs : s.length < 4294967281) :
    ACalls Tryz.prog 96 [.str s, .str [c]] [] (.imm ((splitL s c).map sRow)) [] := by
  refine ⟨by kernel_rfl, fun cx vs hH hr hv => ?_⟩
  simp only [Vals, Val] at hv
  obtain ⟨v, vs', rfl, rfl, v2, vs2, rfl, rfl, rfl⟩ := hv
  obtain ⟨⟨m, hm⟩, _⟩ := hr.gl
  refine (Tryz.strings_Split ⟨s.toArray⟩ ⟨#[c]⟩ m cx.w hs hm (Nat.le_refl 1)).mono fun e w' hq => ?_
  obtain ⟨rfl, rfl⟩ := hq
  have hlen := Lib.splitB_all ⟨#[c]⟩ (Nat.le_refl 1) 0 _ ⟨s.toArray⟩ rfl
  generalize hL : Lib.splitB ⟨#[c]⟩ 0 (Lib.countB ⟨s.toArray⟩ ⟨#[c]⟩) ⟨s.toArray⟩ = L at hlen
  generalize Lib.countB ⟨s.toArray⟩ ⟨#[c]⟩ = n at hlen
  have hN := rel_grow hr (F' := fun b => cx.F b ∨ b = cx.w.heap.size) (w' := cx.w.alloc (.cells (L.map Value.string).toArray 9)) (fun b h => .inl h) (fun b h => h.imp id fun h => ⟨by omega, by simp; omega⟩) (fun b hb => alloc_old cx.w _ b hb) (by simp) rfl rfl rfl
  refine ⟨_, ⟨fun b => cx.F b ∨ b = cx.w.heap.size, cx.μ, cx.H, _⟩, rfl, rfl, hH, hN.1, hN.2, ?_⟩
  have e : (splitL s c).map sRow = L.map fun b => sRow b.data.toList := by rw [splitL, hL, List.map_map]; rfl
  rw [e]
  simp only [Val, List.length_map]
  refine .inl ⟨cx.w.heap.size, 0, n + 1, 1, by rw [hlen], .inr rfl, by omega, ?_⟩
  rw [RowsAt_iff]
  intro j r hj
  rw [List.getElem?_map] at hj
  cases h : L[j]? with
  | none => simp [h] at hj
  | some y =>
    simp [h] at hj
    subst hj
    refine ⟨rfl, ?_⟩
    simp only [sRow, Cells, Val, and_true]
    refine ⟨_, ?_, rfl, rfl⟩
    rw [Nat.mul_one, Nat.zero_add]
    show (cx.w.alloc _).cell? _ = _
    rw [World.cell?_alloc_new]
    simp [h]

theorem splitL_length_le (s : List UInt8) (c : UInt8) : (splitL s c).length ≤ s.length + 1 := by
  have hlen := Lib.splitB_all ⟨#[c]⟩ (Nat.le_refl 1) 0 _ ⟨s.toArray⟩ rfl
  have h2 := Lib.countB_le ⟨#[c]⟩ (Nat.le_refl 1) _ ⟨s.toArray⟩ (Nat.le_refl _)
  have h3 : (ByteArray.mk s.toArray).size = s.length := rfl
  rw [splitL, List.length_map, hlen]; omega

theorem splitB_small (sep : ByteArray) (n : Nat) : ∀ (k : Nat) (s : ByteArray), s.size ≤ n → ∀ x ∈ Lib.splitB sep 0 k s, x.size ≤ n
  | 0, s, h, x, hx => by simp [Lib.splitB] at hx; subst hx; exact h
  | k + 1, s, h, x, hx => by
    unfold Lib.splitB at hx
    split at hx
    · simp at hx; subst hx; exact h
    · rcases List.mem_cons.1 hx with rfl | hx
      · rw [ByteArray.size_extract]; omega
      · exact splitB_small sep n k _ (by rw [ByteArray.size_extract]; omega) x hx
theorem splitL_small {s : List UInt8} {c : UInt8} {x : List UInt8} (h : x ∈ splitL s c) : x.length ≤ s.length := by
  obtain ⟨y, hy, rfl⟩ := List.mem_map.1 h
  exact splitB_small _ s.length _ ⟨s.toArray⟩ (Nat.le_refl _) y hy

theorem HasPrefix0_c (s p : List UInt8) (_hl : p.length < 9223372036854775807) : ACalls Tryz.prog 97 [.str s, .str p] [] (.bool (p.isPrefixOf s)) [] := by
  refine acalls_F c97_ok rfl ?_
  unfold c97
  by_cases h : p.length ≤ s.length
  · have h' : (p.length : Int) ≤ s.length := by omega
    have e : (s.take p.length == p) = p.isPrefixOf s := by
      rw [Bool.eq_iff_iff, beq_iff_eq, List.isPrefixOf_iff_prefix, List.prefix_iff_eq_take]
      exact eq_comm
    simp +decide -dsimp -implicitDefEqProofs [go_sem, h, h', e]
  · have h' : ¬ (p.length : Int) ≤ s.length := by omega
    have e : p.isPrefixOf s = false := by
      rw [Bool.eq_false_iff]; intro hp; rw [List.isPrefixOf_iff_prefix] at hp
      exact h hp.length_le
    simp +decide -dsimp -implicitDefEqProofs [go_sem, h', e]

theorem HasPrefix_c (s p : List UInt8) (hl : p.length < 9223372036854775807) : ACalls Tryz.prog 56 [.str s, .str p] [] (.bool (p.isPrefixOf s)) [] := by
  refine acalls_F c56_ok rfl ?_
  unfold c56
  simp +decide -dsimp -implicitDefEqProofs [go_sem]
  refine callE_pure (HasPrefix0_c s p hl) rfl rfl ?_
  simp +decide -dsimp -implicitDefEqProofs [go_sem]

def trimP (s p : List UInt8) : List UInt8 := if p.isPrefixOf s then s.drop p.length else s
theorem CutPrefix_c (s p : List UInt8) (hl : p.length < 9223372036854775807) : ACalls Tryz.prog 131 [.str s, .str p] [] (.tup [.str (trimP s p), .bool (p.isPrefixOf s)]) [] := by
  have h108 : ACalls Tryz.prog 171 [.str s, .str p] [] (.tup [.str (trimP s p), .bool (p.isPrefixOf s)]) [] := by
    refine acalls_F c171_ok rfl ?_
    unfold c171 trimP
    simp +decide -dsimp -implicitDefEqProofs [go_sem]
    refine callE_pure (HasPrefix0_c s p hl) rfl rfl ?_
    by_cases h : p.isPrefixOf s = true
    · have h2 : p.length ≤ s.length := (List.isPrefixOf_iff_prefix.1 h).length_le
      simp +decide -dsimp -implicitDefEqProofs [go_sem, h, h2]
      intro hn; exact absurd (List.isPrefixOf_iff_prefix.1 h) hn
    · simp +decide -dsimp -implicitDefEqProofs [go_sem, h]
      intro hn; exact absurd (List.isPrefixOf_iff_prefix.2 hn) h
  refine acalls_F c131_ok rfl ?_
  unfold c131
  simp +decide -dsimp -implicitDefEqProofs [go_sem]
  refine callE_pure h108 rfl rfl ?_
  simp +decide -dsimp -implicitDefEqProofs [go_sem]

theorem cvT_self {H : List AObj} {m : Nat} : ∀ {l : List AV}, closedL m l = true → cvT H m l l
  | [], _ => trivial
  | x :: xs, h => by
    simp only [closedL, Bool.and_eq_true] at h
    exact ⟨.inr (.inl ⟨rfl, h.1⟩), cvT_self h.2⟩

def pathL (s : List UInt8) : Option (List (List UInt8)) :=
  match s with
  | [] => none
  | c :: r => if c = 47 ∧ ((splitL r 47).all validB) = true then some (splitL r 47) else none

set_option maxRecDepth 20000 in
theorem nSplit_c (s : List UInt8) (hs : s.length < 100000000) : ACalls Tryz.prog 91 [.str s] [] (match pathL s with | some l => .tup [.imm (l.map sRow), .int .i64 0] | none => .tup [.imm [], .int .i64 10]) [] := by
  refine acalls_F c91_ok rfl ?_
  unfold c91
  simp +decide -dsimp -implicitDefEqProofs [go_sem]
  refine callE_pure (CutPrefix_c s [47] (by decide)) rfl rfl ?_
  have hlt : (trimP s [47]).length ≤ s.length := by unfold trimP; split <;> simp
  simp +decide -dsimp -implicitDefEqProofs [go_sem]
  have hl2 := splitL_length_le (trimP s [47]) 47
  refine callE_pure (Split_c (trimP s [47]) 47 (by omega)) rfl (by simp [closed, closedLL_sRows]) ?_
  by_cases hp : ([47] : List UInt8).isPrefixOf s = true
  · obtain ⟨r, rfl⟩ : ∃ r, s = 47 :: r := by
      cases s with
      | nil => simp at hp
      | cons c r => simp at hp; exact ⟨r, by rw [hp]⟩
    have e : trimP (47 :: r) [47] = r := by simp [trimP]
    rw [e]
    simp +decide -dsimp -implicitDefEqProofs [go_sem]
    refine callE_of (all_c (splitL r 47) 41 [] [] validB (by rw [e] at hl2; simp only [List.length_cons] at hs; omega) (fun _ _ => rfl) (by simp [selfH, cvH]) (fun _ => by simp [cvH]) (fun cs h => ⟨⟨rfl, cvT_self h⟩, trivial⟩) (fun x _ => (nValid_c x).pure _ rfl rfl)) ?_
    by_cases hv : ((splitL r 47).all validB) = true
    · simp +decide -dsimp -implicitDefEqProofs [go_sem, hv, pathL]
    · simp +decide -dsimp -implicitDefEqProofs [go_sem, hv, pathL]
  · have e : pathL s = none := by
      cases s with
      | nil => rfl
      | cons c r => simp at hp; simp [pathL]; intro h; exact absurd h.symm hp
    simp +decide -dsimp -implicitDefEqProofs [go_sem, hp, e]
end Go.Ab
namespace Go.Ab
open Go Go.Proofs

def placeB (s : List UInt8) : Bool := match pathL s with | some l => decide (l.length ≤ 7) | none => false

theorem isPath_c (s : List UInt8) (hs : s.length < 100000000) : ACalls Tryz.prog 120 [.str s] [] (.bool (placeB s)) [] := by
  refine acalls_F c120_ok rfl ?_
  unfold c120
  have h := nSplit_c s hs
  simp +decide -dsimp -implicitDefEqProofs [go_sem]
  refine callE_pure h rfl (by cases pathL s <;> simp [closed, closedL, closedLL, closedLL_sRows]) ?_
  cases e : pathL s with
  | none => simp +decide -dsimp -implicitDefEqProofs [go_sem, placeB, e]
  | some l =>
    have e2 : (decide ((l.length : Int) ≤ 7)) = decide (l.length ≤ 7) := by rw [decide_eq_decide]; omega
    simp +decide -dsimp -implicitDefEqProofs [go_sem, placeB, e, e2]

end Go.Ab
namespace Go.Ab
open Go Go.Proofs
def tblP : List Bool := plusL tblC [64, 35, 61, 37]
theorem tblP_len : tblP.length = 256 := by simp only [tblP, plusL_len, tblC_len]
def linkL : List UInt8 := [65, 66, 67, 68, 69, 70, 71, 72, 73, 74, 75, 76, 77, 78, 79, 80, 81, 82, 83, 84, 85, 86, 87, 88, 89, 90, 97, 98, 99, 100, 101, 102, 103, 104, 105, 106, 107, 108, 109, 110, 111, 112, 113, 114, 115, 116, 117, 118, 119, 120, 121, 122, 48, 49, 50, 51, 52, 53, 54, 55, 56, 57, 95, 46, 58, 43, 45, 64, 35, 61, 37]

theorem tblP_at (c : UInt8) : tblP[c.toNat]?.getD false = decide (c ∈ linkL) := by
  rw [tblP, plusL_at _ _ _ tblC_len, tblC, plusL_at _ _ _ (by simp only [plusL_len, falses_len]), plusL_at _ _ _ (by simp only [plusL_len, falses_len]), plusL_at _ _ _ (by simp only [plusL_len, falses_len]), tblU_at]
  simp only [Option.getD_some]
  have key : ∀ n : Fin 256, (decide (UInt8.ofNat n ∈ upperL) || decide (UInt8.ofNat n ∈ Lib.toLowerA upperL) || decide (UInt8.ofNat n ∈ digitsL) || decide (UInt8.ofNat n ∈ [95, 46, 58, 43, 45]) || decide (UInt8.ofNat n ∈ ([64, 35, 61, 37] : List UInt8))) = decide (UInt8.ofNat n ∈ linkL) := by decide +kernel
  have := key ⟨c.toNat, UInt8.toNat_lt c⟩
  simpa only [UInt8.ofNat_toNat] using this

set_option maxRecDepth 20000 in
theorem parts_c : ACalls Tryz.prog 168 [] [] (.agg (bB tblP)) [] := by
  refine acalls_F c168_ok rfl ?_
  unfold c168
  rw [zB_f]
  simp +decide -dsimp -implicitDefEqProofs [go_sem]
  refine callE_pure common_c rfl (aggB_closed _ _) ?_
  simp +decide -dsimp -implicitDefEqProofs [go_sem]
  refine callE_pure (plus_c tblC [64, 35, 61, 37] tblC_len (by decide)) (by simp [closedL, bB_closed, closed]) (aggB_closed _ _) ?_
  change cbv _ _ _
  have t1 : ∀ bs : List Bool, bs.length = 256 → (bB bs).take 256 = bB bs := fun bs h => bB_take bs 256 (by omega)
  have t2 : ∀ bs : List Bool, bs.length = 256 → (bB bs).drop 256 = [] := fun bs h => List.drop_eq_nil_of_le (by rw [bB_len]; omega)
  have e : plusL tblC [64, 35, 61, 37] = tblP := rfl
  rw [e]
  simp +decide -dsimp -implicitDefEqProofs [go_sem, bB_len, tblP_len, falses_len, t1, t2, bB_cvT]

def compB (s : List UInt8) : Bool := decide (s ≠ []) && !decide (s = [46] ∨ s = [46, 46]) && s.all fun c => decide (c ∈ linkL)
def linkB (s : List UInt8) : Bool := decide (s.length ≤ 256) && (splitL s 47).all compB

theorem hasP_c (s : List UInt8) (hl : s.length < 1000000000) : ACalls Tryz.prog 81 [.agg (bB tblP), .str s] [] (.bool (s.all fun c => decide (c ∈ linkL))) [] := by
  have := has_c tblP s tblP_len hl
  simp only [tblP_at] at this
  exact this

set_option maxRecDepth 20000 in
theorem comp1_c (s : List UInt8) (hl : s.length < 1000000000) (H : List AObj) (H2 : List AObj) (hH : H = .box 123 (bB tblP) :: H2) (hs : selfH H) : ACalls Tryz.prog 169 [.str s, .ptr 0 0] H (.bool (compB s)) H := by
  refine acalls_F c169_ok rfl ?_
  unfold c169 compB
  have h0 : H[0]? = some (.box 123 (bB tblP)) := by rw [hH]; rfl
  have t1 : ∀ bs : List Bool, bs.length = 256 → (bB bs).take 256 = bB bs := fun bs h => bB_take bs 256 (by omega)
  by_cases he : s = []
  · subst he; simp +decide -dsimp -implicitDefEqProofs [go_sem]; exact hs
  simp +decide -dsimp -implicitDefEqProofs [go_sem, he]
  refine callE_pure (dots_c s) rfl rfl ?_
  by_cases h3 : s = [46]
  · subst h3; simp +decide -dsimp -implicitDefEqProofs [go_sem]; exact hs
  by_cases h4 : s = [46, 46]
  · subst h4; simp +decide -dsimp -implicitDefEqProofs [go_sem]; exact hs
  simp +decide -dsimp -implicitDefEqProofs [go_sem, he, h3, h4, h0, tblP_len, t1]
  refine callE_pure (hasP_c s hl) (by simp [closedL, closed, bB_closed]) rfl ?_
  simp +decide -dsimp -implicitDefEqProofs [go_sem, h3, h4]
  exact hs

set_option maxRecDepth 20000 in
theorem Link_c (s : List UInt8) (hl : s.length < 1000000000) : ACalls Tryz.prog 127 [.str s] [] (.bool (linkB s)) [] := by
  refine acalls_F c127_ok rfl ?_
  unfold c127 linkB
  rw [zB_f]
  have t1 : ∀ bs : List Bool, bs.length = 256 → (bB bs).take 256 = bB bs := fun bs h => bB_take bs 256 (by omega)
  have t2 : ∀ bs : List Bool, bs.length = 256 → (bB bs).drop 256 = [] := fun bs h => List.drop_eq_nil_of_le (by rw [bB_len]; omega)
  simp +decide -dsimp -implicitDefEqProofs [go_sem]
  refine callE_pure parts_c rfl (aggB_closed _ _) ?_
  by_cases h : s.length ≤ 256
  · have h' : (s.length : Int) ≤ 256 := by omega
    simp +decide -dsimp -implicitDefEqProofs [go_sem, bB_len, tblP_len, falses_len, t2, h']
    refine callE_pure (Split_c s 47 (by omega)) rfl (by simp [closed, closedLL_sRows]) ?_
    simp +decide -dsimp -implicitDefEqProofs [go_sem]
    have hl2 := splitL_length_le s 47
    refine callE_of (all_c (splitL s 47) 169 [.ptr 0 0] [.box 123 (bB tblP)] compB (by omega) (fun n hn => by simp [closedL, closed]; exact hn) ⟨⟨rfl, bB_cvT _ _ _⟩, trivial⟩ (fun _ => ⟨⟨rfl, bB_cvT _ _ _⟩, trivial⟩) (fun cs hcs => ⟨⟨rfl, bB_cvT _ _ _⟩, ⟨rfl, cvT_self hcs⟩, trivial⟩)
      (fun x hx => comp1_c x (by have := splitL_small hx; omega) _ _ rfl ⟨⟨rfl, bB_cvT _ _ _⟩, ⟨rfl, cvT_self (by simp [closedL, closed])⟩, trivial⟩)) ?_
    simp +decide -dsimp -implicitDefEqProofs [go_sem, h]
  · have h' : ¬ (s.length : Int) ≤ 256 := by omega
    simp +decide -dsimp -implicitDefEqProofs [go_sem, bB_len, tblP_len, falses_len, t2, h, h']

end Go.Ab
namespace Go.Ab
open Go

def cutL (c : UInt8) : List UInt8 → Option (List UInt8 × List UInt8)
  | [] => none
  | x :: r => if x = c then some ([], r) else (cutL c r).map fun p => (x :: p.1, p.2)
theorem cutL_app {c : UInt8} {t : List UInt8} : ∀ {s : List UInt8}, c ∉ s → cutL c (s ++ c :: t) = some (s, t)
  | [], _ => by simp [cutL]
  | x :: r, h => by
    simp only [List.mem_cons, not_or] at h
    simp [cutL, cutL_app h.2, show ¬ x = c from fun e => h.1 e.symm]
def splitC (c : UInt8) : List UInt8 → List (List UInt8)
  | [] => [[]]
  | x :: r => if x = c then [] :: splitC c r else (match splitC c r with | a :: l => (x :: a) :: l | [] => [[x]])
theorem splitC_ne (c : UInt8) : ∀ s, splitC c s ≠ []
  | [] => by simp [splitC]
  | x :: r => by
    unfold splitC; split
    · simp
    · split <;> simp
theorem splitC_app {c : UInt8} {t : List UInt8} : ∀ {s : List UInt8}, c ∉ s → splitC c (s ++ c :: t) = s :: splitC c t
  | [], _ => by simp [splitC]
  | x :: r, h => by
    simp only [List.mem_cons, not_or] at h
    simp [splitC, splitC_app h.2, show ¬ x = c from fun e => h.1 e.symm]
theorem splitC_none {c : UInt8} : ∀ {s : List UInt8}, c ∉ s → splitC c s = [s]
  | [], _ => rfl
  | x :: r, h => by
    simp only [List.mem_cons, not_or] at h
    simp [splitC, splitC_none h.2, show ¬ x = c from fun e => h.1 e.symm]
theorem index_one (c : UInt8) : ∀ s : List UInt8, Lib.index s [c] = Lib.indexByte s c
  | [] => rfl
  | b :: l => by
    unfold Lib.index Lib.indexByte
    rw [index_one c l]
    by_cases h : b = c
    · subst h; simp [List.isPrefixOf]
    · have : ¬ c = b := fun e => h e.symm
      simp [List.isPrefixOf, h, this]
theorem indexByte_cut (c : UInt8) : ∀ s : List UInt8, (Lib.indexByte s c = -1 ∧ c ∉ s) ∨ ∃ a b, s = a ++ c :: b ∧ c ∉ a ∧ Lib.indexByte s c = a.length
  | [] => .inl ⟨rfl, by simp⟩
  | x :: r => by
    unfold Lib.indexByte
    by_cases h : x = c
    · subst h; exact .inr ⟨[], r, rfl, by simp, by simp⟩
    · have h' : ¬ c = x := fun e => h e.symm
      rcases indexByte_cut c r with ⟨h1, h2⟩ | ⟨a, b, h1, h2, h3⟩
      · exact .inl ⟨by simp [h, h1], by simp [h2, h']⟩
      · refine .inr ⟨x :: a, b, by rw [h1]; rfl, by simp [h2, h'], ?_⟩
        have h4 : ¬ (a.length : Int) = -1 := by omega
        simp [h, h3, h4]
theorem splitK_eq (c : UInt8) : ∀ (n : Nat) (s : List UInt8), s.length ≤ n → Lib.splitK [c] 0 (Lib.count s [c]) s = splitC c s
  | n, s, hn => by
    rcases indexByte_cut c s with ⟨h1, h2⟩ | ⟨a, b, h1, h2, h3⟩
    · have hi : Lib.index s [c] = -1 := by rw [index_one, h1]
      rw [Lib.count_miss hi, splitC_none h2]; rfl
    · have hi : Lib.index s [c] = (a.length : Nat) := by rw [index_one, h3]
      have hm : ¬ (Lib.index s [c] == -1) = true := fun e => by have := beq_iff_eq.1 e; omega
      rw [Lib.count_hit (by simp) hi, Nat.add_comm]
      unfold Lib.splitK
      rw [if_neg hm, hi]
      have e1 : s.drop (a.length + [c].length) = b := by rw [h1]; simp
      have e2 : s.take a.length = a := by rw [h1]; simp
      have e3 : ((a.length : Nat) : Int).toNat = a.length := by omega
      rw [e1, e3, Nat.add_zero, e2, e1]
      have hb : b.length < s.length := by rw [h1]; simp; omega
      cases n with
      | zero => omega
      | succ n =>
        rw [splitK_eq c n b (by omega)]
        conv => rhs; rw [h1]
        rw [splitC_app h2]

/-! ### Numerals -/
end Go.Ab
namespace Go.Ab
open Go Go.Proofs Go.Sort
theorem splitL_eq (s : List UInt8) (c : UInt8) : splitL s c = splitC c s := by
  have h := Lib.splitB_data ⟨#[c]⟩ 0 (Lib.countB ⟨s.toArray⟩ ⟨#[c]⟩) ⟨s.toArray⟩
  have e : Lib.countB ⟨s.toArray⟩ ⟨#[c]⟩ = Lib.count s [c] := by simp [Lib.countB]
  rw [splitL, h, e]
  exact splitK_eq c _ s (Nat.le_refl _)
theorem splitC_len {c : UInt8} {B : Nat} : ∀ {s : List UInt8}, (∀ x ∈ splitC c s, x.length ≤ B) → s.length + 1 ≤ (splitC c s).length * (B + 1)
  | [], _ => by simp [splitC]
  | x :: r, h => by
    unfold splitC at h ⊢
    split at h
    · rename_i e
      rw [if_pos e]
      have := splitC_len (c := c) (s := r) fun y hy => h y (by simp [hy])
      simp only [List.length_cons, Nat.add_mul]; omega
    · rename_i e
      rw [if_neg e]
      split at h
      · rename_i a l hl
        have h1 := h (x :: a) (by simp)
        have key : ∀ (s : List UInt8) (a : List UInt8) (l : List (List UInt8)), splitC c s = a :: l → (∀ y ∈ l, y.length ≤ B) → s.length ≤ a.length + l.length * (B + 1) := by
          intro s
          induction s with
          | nil => intro a l hs _; simp
          | cons y s ih =>
            intro a l hs hall
            unfold splitC at hs
            split at hs
            · simp only [List.cons.injEq] at hs
              obtain ⟨rfl, rfl⟩ := hs
              obtain ⟨a', l', hs'⟩ := List.exists_cons_of_ne_nil (splitC_ne c s)
              rw [hs'] at hall
              have := ih a' l' hs' fun y hy => hall y (by simp [hy])
              have h2 := hall a' (by simp)
              rw [hs']
              simp only [List.length_cons, List.length_nil, Nat.add_mul]; omega
            · split at hs
              · rename_i a' l' hs'
                simp only [List.cons.injEq] at hs
                obtain ⟨rfl, rfl⟩ := hs
                have := ih a' l' hs' hall
                simp only [List.length_cons]; omega
              · rename_i hs'; exact absurd hs' (splitC_ne c s)
        have := key r a l hl fun y hy => h y (by simp [hy])
        simp only [List.length_cons, Nat.add_mul] at h1 ⊢; omega
      · rename_i hl; exact absurd hl (splitC_ne c r)
theorem valid_small {s : List UInt8} (h : validB s = true) : s.length ≤ 32 := by
  unfold validB at h
  simp only [Bool.and_eq_true, decide_eq_true_eq] at h
  exact h.1.1.2
theorem path_small {s : List UInt8} (h : placeB s = true) : s.length ≤ 240 := by
  unfold placeB at h
  split at h
  · rename_i l hl
    simp only [decide_eq_true_eq] at h
    unfold pathL at hl
    split at hl
    · cases hl
    · rename_i c r
      split at hl
      · rename_i hc
        simp only [Option.some.injEq] at hl
        have h2 := List.all_eq_true.1 hc.2
        rw [hl] at h2
        rw [splitL_eq] at hl
        have := splitC_len (c := 47) (B := 32) (s := r) fun x hx => valid_small (h2 x (hl ▸ hx))
        rw [hl] at this
        have h3 : l.length * 33 ≤ 7 * 33 := Nat.mul_le_mul_right _ h
        simp only [List.length_cons]; omega
      · cases hl
  · cases h
end Go.Ab
namespace Go.Ab
open Go Go.Proofs
def cmpS (a b : List UInt8) : Int := if a < b then -1 else if a = b then 0 else 1
def cmpL : List (List UInt8) → List (List UInt8) → Int
  | [], [] => 0
  | [], _ :: _ => -1
  | _ :: _, [] => 1
  | x :: r, y :: s => if cmpS x y = 0 then cmpL r s else cmpS x y
theorem isNan_c (a : List UInt8) : ACalls Tryz.prog 194 [.str a] [] (.bool false) [] := by
  refine acalls_F c194_ok rfl ?_
  unfold c194
  simp +decide -dsimp -implicitDefEqProofs [go_sem]
theorem cmpS_c (a b : List UInt8) : ACalls Tryz.prog 173 [.str a, .str b] [] (.int .i64 (cmpS a b)) [] := by
  have e : Op.bytesLess a b = decide (a < b) := bytesLess_eq a b
  refine acalls_F c173_ok rfl ?_
  unfold c173
  simp +decide -dsimp -implicitDefEqProofs [go_sem]
  refine callE_pure (isNan_c a) rfl rfl ?_
  simp +decide -dsimp -implicitDefEqProofs [go_sem]
  refine callE_pure (isNan_c b) rfl rfl ?_
  by_cases h : a < b
  · simp +decide -dsimp -implicitDefEqProofs [go_sem, e, h, cmpS]
  · by_cases h2 : a = b
    · subst h2
      simp +decide -dsimp -implicitDefEqProofs [go_sem, e, h, cmpS]
    · simp +decide -dsimp -implicitDefEqProofs [go_sem, e, h, h2, cmpS]
theorem cmpLs_c (l m : List (List UInt8)) (hl : l.length < 1000000) (_hm : m.length < 1000000) : ACalls Tryz.prog 135 [.imm (l.map sRow), .imm (m.map sRow)] [] (.int .i64 (cmpL l m)) [] := by
  refine acalls_F c135_ok rfl ?_
  unfold c135
  simp +decide -dsimp -implicitDefEqProofs [go_sem]
  refine loop_of (S := Nat) (fun i => ⟨tmps 36 [(0, .imm (l.map sRow)), (1, .imm (m.map sRow)), (9, .imm (l.map sRow)), (10, .int .i64 l.length), (11, .int .i64 i)], []⟩) (fun i => l.length - i)
    (fun i => i ≤ l.length ∧ i ≤ m.length ∧ cmpL l m = cmpL (l.drop i) (m.drop i)) 0 (by simp) (cut_of (by simp) ?_) ?_
  · simp +decide -dsimp -implicitDefEqProofs [go_sem]
  rintro i ⟨hi, hj, hc⟩
  by_cases h : i < l.length
  · have hdl : l.drop i = l[i] :: l.drop (i + 1) := List.drop_eq_getElem_cons h
    have w : IntKind.i64.wrap ((i : Int) + 1) = i + 1 := w64 (by omega) (by omega)
    by_cases h2 : i < m.length
    · have hdm : m.drop i = m[i] :: m.drop (i + 1) := List.drop_eq_getElem_cons h2
      have h3 : ¬ m.length ≤ i := by omega
      rw [hdl, hdm, cmpL] at hc
      have cs := cmpS_c l[i] m[i]
      simp +decide -dsimp -implicitDefEqProofs [go_sem, h, h2, h3]
      refine callE_pure cs rfl rfl ?_
      by_cases h0 : cmpS l[i] m[i] = 0
      · rw [if_pos h0] at hc
        simp +decide -dsimp -implicitDefEqProofs [go_sem, h0, w]
        refine next_of (i + 1) ⟨by omega, by omega, hc⟩ (by show l.length - (i + 1) < l.length - i; omega) (cut_of (by simp) ?_)
        simp +decide -dsimp -implicitDefEqProofs [go_sem]
      · rw [if_neg h0] at hc
        simp +decide -dsimp -implicitDefEqProofs [go_sem, h0, hc]
    · have h3 : m.length ≤ i := by omega
      have hdm : m.drop i = [] := List.drop_eq_nil_of_le h3
      rw [hdl, hdm, cmpL] at hc
      simp +decide -dsimp -implicitDefEqProofs [go_sem, h, h3, hc]
  · have e : i = l.length := by omega
    subst e
    rw [List.drop_length] at hc
    by_cases h2 : l.length < m.length
    · have hdm : m.drop l.length = m[l.length] :: m.drop (l.length + 1) := List.drop_eq_getElem_cons h2
      rw [hdm, cmpL] at hc
      simp +decide -dsimp -implicitDefEqProofs [go_sem, h2, hc]
    · have hdm : m.drop l.length = [] := List.drop_eq_nil_of_le (by omega)
      rw [hdm, cmpL] at hc
      simp +decide -dsimp -implicitDefEqProofs [go_sem, h2, hc]
def compsP (p : List UInt8) : List (List UInt8) := (pathL p).getD []
def cmpP (a b : List UInt8) : Int := cmpL (compsP a) (compsP b)
theorem comps_some {p : List UInt8} (h : placeB p = true) : pathL p = some (compsP p) ∧ (compsP p).length ≤ 7 := by
  unfold placeB at h
  unfold compsP
  cases e : pathL p with
  | none => rw [e] at h; cases h
  | some l => rw [e] at h; exact ⟨rfl, by simpa using h⟩
theorem nCompare_c (a b : List UInt8) (ha : placeB a = true) (hb : placeB b = true) : ACalls Tryz.prog 95 [.str a, .str b] [] (.tup [.int .i64 (cmpP a b), .int .i64 0]) [] := by
  obtain ⟨ea, la⟩ := comps_some ha
  obtain ⟨eb, lb⟩ := comps_some hb
  have ca := nSplit_c a (by have := path_small ha; omega)
  have cb := nSplit_c b (by have := path_small hb; omega)
  rw [ea] at ca
  rw [eb] at cb
  have cc := cmpLs_c (compsP a) (compsP b) (by omega) (by omega)
  refine acalls_F c95_ok rfl ?_
  unfold c95
  simp +decide -dsimp -implicitDefEqProofs [go_sem]
  refine callE_pure ca rfl (by simp +decide -dsimp -implicitDefEqProofs [go_sem]) ?_
  simp +decide -dsimp -implicitDefEqProofs [go_sem]
  refine callE_pure cb rfl (by simp +decide -dsimp -implicitDefEqProofs [go_sem]) ?_
  simp +decide -dsimp -implicitDefEqProofs [go_sem]
  refine callE_pure cc (by simp +decide -dsimp -implicitDefEqProofs [go_sem]) rfl ?_
  simp +decide -dsimp -implicitDefEqProofs [go_sem, cmpP]
end Go.Ab
namespace Go.Ab
open Go Go.Proofs Go.Sort
def joinP : List (List UInt8) → List UInt8
  | [] => []
  | x :: r => 47 :: (x ++ joinP r)
theorem join_split : ∀ s : List UInt8, joinP (splitC 47 s) = 47 :: s
  | [] => rfl
  | x :: r => by
    have ih := join_split r
    unfold splitC
    by_cases h : x = 47
    · subst h; rw [if_pos rfl, joinP, ih]; rfl
    · rw [if_neg h]
      have hne := splitC_ne 47 r
      cases e : splitC 47 r with
      | nil => exact absurd e hne
      | cons a l =>
        rw [e] at ih
        simp only [joinP, List.cons.injEq, true_and] at ih ⊢
        rw [← ih]; rfl
theorem pathL_join {p : List UInt8} {l : List (List UInt8)} (h : pathL p = some l) : p = joinP l := by
  cases p with
  | nil => cases h
  | cons c r =>
    simp only [pathL] at h
    split at h
    · rename_i h2
      obtain ⟨rfl, _⟩ := h2
      cases h
      rw [splitL_eq, join_split]
    · cases h
theorem cmpS_lt (a b : List UInt8) : cmpS a b < 0 ↔ a < b := by
  unfold cmpS
  by_cases h : a < b
  · simp [h]
  · by_cases h2 : a = b
    · subst h2; simp [h]
    · simp [h, h2]
theorem cmpS_eq (a b : List UInt8) : cmpS a b = 0 ↔ a = b := by
  unfold cmpS
  by_cases h : a < b
  · have : a ≠ b := fun e => by subst e; exact List.lt_irrefl _ h
    simp [h, this]
  · by_cases h2 : a = b
    · subst h2; simp [h]
    · simp [h, h2]
theorem cmpL_eq : ∀ (l m : List (List UInt8)), cmpL l m = 0 ↔ l = m
  | [], [] => by simp [cmpL]
  | [], _ :: _ => by simp [cmpL]
  | _ :: _, [] => by simp [cmpL]
  | x :: r, y :: s => by
    rw [cmpL]
    by_cases h : cmpS x y = 0
    · rw [if_pos h, cmpL_eq r s]
      rw [cmpS_eq] at h
      simp [h]
    · rw [if_neg h]
      have h2 : x ≠ y := fun e => h ((cmpS_eq x y).2 e)
      simp [h, h2]
theorem cmpL_lt : ∀ (l m : List (List UInt8)), cmpL l m < 0 ↔ l < m
  | [], [] => by simp [cmpL]
  | [], _ :: _ => by simp [cmpL]
  | _ :: _, [] => by simp [cmpL]
  | x :: r, y :: s => by
    rw [cmpL, List.cons_lt_cons_iff]
    by_cases h : cmpS x y = 0
    · rw [if_pos h, cmpL_lt r s]
      rw [cmpS_eq] at h
      subst h
      simp [List.lt_irrefl]
    · rw [if_neg h, cmpS_lt]
      have h2 : x ≠ y := fun e => h ((cmpS_eq x y).2 e)
      simp [h2]
theorem comps_inj {p q : List UInt8} (hp : placeB p = true) (hq : placeB q = true) (h : compsP p = compsP q) : p = q := by
  have h1 := pathL_join (comps_some hp).1
  have h2 := pathL_join (comps_some hq).1
  rw [h1, h2, h]
def ltP (p q : List UInt8) : Bool := decide (cmpP p q < 0)
theorem swo_ltP : SWO ltP where
  irrefl x := by simp [ltP, cmpP, cmpL_lt, List.lt_irrefl]
  trans x y z h1 h2 := by simp only [ltP, cmpP, cmpL_lt, decide_eq_true_eq] at *; exact List.lt_trans h1 h2
  ntrans x y z h1 h2 := by
    simp only [ltP, cmpP, cmpL_lt, decide_eq_false_iff_not, List.not_lt] at *
    exact List.le_trans h2 h1
theorem cmpP_ntot {p q : List UInt8} (hp : placeB p = true) (hq : placeB q = true) (h1 : ¬ cmpP p q < 0) (h2 : ¬ cmpP q p < 0) : p = q := by
  simp only [cmpP, cmpL_lt, List.not_lt] at h1 h2
  exact comps_inj hp hq (List.le_antisymm h2 h1)
theorem asc_ext {α : Type} {R : α → α → Prop} (ha : ∀ a b, R a b → ¬ R b a) : ∀ {l l' : List α}, l.Pairwise R → l'.Pairwise R → (∀ x, x ∈ l ↔ x ∈ l') → l = l'
  | [], [], _, _, _ => rfl
  | [], b :: l', _, _, h => absurd ((h b).2 (List.mem_cons_self ..)) (by simp)
  | a :: l, [], _, _, h => absurd ((h a).1 (List.mem_cons_self ..)) (by simp)
  | a :: l, b :: l', h1, h2, h => by
    rw [List.pairwise_cons] at h1 h2
    have e : a = b := by
      rcases List.mem_cons.1 ((h a).1 (List.mem_cons_self ..)) with e | e
      · exact e
      · rcases List.mem_cons.1 ((h b).2 (List.mem_cons_self ..)) with e2 | e2
        · exact e2.symm
        · exact absurd (h1.1 b e2) (ha _ _ (h2.1 a e))
    subst e
    have na : ∀ {m : List α}, (∀ x ∈ m, R a x) → a ∉ m := fun hm hx => ha _ _ (hm a hx) (hm a hx)
    have n1 := na h1.1
    have n2 := na h2.1
    rw [asc_ext ha h1.2 h2.2 fun x => ⟨fun hx => ?_, fun hx => ?_⟩]
    · rcases List.mem_cons.1 ((h x).1 (List.mem_cons_of_mem _ hx)) with rfl | h3
      · exact absurd hx n1
      · exact h3
    · rcases List.mem_cons.1 ((h x).2 (List.mem_cons_of_mem _ hx)) with rfl | h3
      · exact absurd hx n2
      · exact h3
end Go.Ab
